/- The texts Z27 .. Z35 of this proof, one behind the other. -/
import Derived.Test.YtpghmnpbfaichaaM2
import Derived.Test.YtpghmnpbfaichaaM1
/- Products in the fields. -/
namespace Go.Pl
open Go.Sx
noncomputable def fM (P a b : Nat) : Nat := hide (a * b % P)
theorem fM_eq (P a b : Nat) : fM P a b = a * b % P := hide_eq _
theorem fM_lt {P : Nat} (hP : 2 < P) (a b : Nat) : fM P a b < P := by rw [fM_eq]; exact Nat.mod_lt _ (by omega)
noncomputable def fMu (s : Int) (a b : Nat) : Nat := if fP s = 0 then 0 else fM (fP s) a b
theorem isNm_sm (p0 p1 p2 p3 ad sm ng q0 q1 q2 q3 : Int) {P : Nat} (hn : isNm [p0, p1, p2, p3, ad, sm, ng, q0, q1, q2, q3] P) : sm = (P : Int) ∧ P ≤ 16521217 ∨ sm = 0 ∧ 16521217 < P ∧ ∃ S, S < P ∧ [q0, q1, q2, q3] = eI S ∧ S = top * top % P ∧ top * Ri P % P = 1 % P := by
  cases hn
  · exact .inl ⟨rfl, by omega⟩
  · exact .inl ⟨rfl, by omega⟩
  · refine .inr ⟨rfl, by omega, 4263855311831330276397237192126260515652039413828781833859739249380679483407, by omega, ?_, by decide +kernel, Ri_P2⟩
    have := nv_eS (n := 4263855311831330276397237192126260515652039413828781833859739249380679483407) (a := 10122100416058490895) (b := 15551789045973377255) (c := 8617542898466512152) (d := 679271340751763220) (by simp only [nv]) (by omega) (by omega) (by omega) (by omega)
    rw [eI, this.1, this.2.1, this.2.2.1, this.2.2.2]; rfl
  · refine .inr ⟨rfl, by omega, 4263855311957679929489659445116329028194309752796460188622876710448966664207, by omega, ?_, by decide +kernel, Ri_P3⟩
    have := nv_eS (n := 4263855311957679929489659445116329028194309752796460188622876710448966664207) (a := 18200867980676431887) (b := 7474641938123724515) (c := 9200329640471491984) (d := 679271340771891881) (by simp only [nv]) (by omega) (by omega) (by omega) (by omega)
    rw [eI, this.1, this.2.1, this.2.2.1, this.2.2.2]; rfl
theorem fG_lt {P : Nat} (hP : 2 < P) (a b : Nat) : fG P a b < P := by rw [fG_eq]; exact Nat.mod_lt _ (by omega)
theorem mod_l (P x y : Nat) : x % P * y % P = x * y % P := by rw [Nat.mul_mod, Nat.mod_mod, ← Nat.mul_mod]
/-- Montgomery's product twice is the product. -/
theorem fG_two (P a b S : Nat) (hS : S = top * top % P) (hr : top * Ri P % P = 1 % P) : fG P (fG P (fR P a) (fR P b)) S = fM P a b := by
  rw [fM_eq, fG_eq, fG_eq, fR_eq, fR_eq, hS]
  have e1 : a % P * (b % P) * Ri P % P = a * b * Ri P % P := by
    rw [← mod_l P (a % P * (b % P)), ← Nat.mul_mod, mod_l]
  rw [e1]
  rw [Nat.mul_assoc, mod_l, ← Nat.mul_assoc]
  have e2 : a * b * Ri P * (top * top % P) * Ri P % P = a * b * (Ri P * top) * (Ri P * top) % P := by
    rw [Nat.mul_assoc (a * b * Ri P), Nat.mul_comm (top * top % P), ← Nat.mul_assoc, Nat.mul_mod_mod]
    congr 1
    simp only [Nat.mul_assoc, Nat.mul_comm, Nat.mul_left_comm]
  rw [e2, Nat.mul_mod, Nat.mul_comm (Ri P), hr, ← Nat.mul_mod, Nat.mul_one, Nat.mul_mod, hr, ← Nat.mul_mod, Nat.mul_one]
theorem small_mul {P : Nat} (hP : 2 < P) (hs : P ≤ 16521217) (a b : Nat) : SV.agg [SV.v (vu64 (Int.tmod (IntKind.wrap IntKind.u64 ((↑(limb (fR P a) 0) : Int) * (↑(limb (fR P b) 0) : Int))) (P : Int))), SV.v (vu64 (0 : Int)), SV.v (vu64 (0 : Int)), SV.v (vu64 (0 : Int))] = eS (fM P a b) := by
  have h1 := fR_lt' P a (by omega)
  have h2 := fR_lt' P b (by omega)
  have h3 := fM_lt hP a b
  obtain ⟨l0, l1, l2, l3⟩ := limb_small (fM P a b) (by omega)
  have hm : fR P a * fR P b ≤ 16521217 * 16521217 := Nat.mul_le_mul (by omega) (by omega)
  rw [(limb_small (fR P a) (by omega)).1, (limb_small (fR P b) (by omega)).1, mulN, wrapN _ (by omega), eS, l0, l1, l2, l3]
  rw [show Int.tmod ((fR P a * fR P b : Nat) : Int) (P : Int) = ((fR P a * fR P b % P : Nat) : Int) from rfl, fM_eq, fR_eq, fR_eq, ← Nat.mul_mod]
  rfl
end Go.Pl
namespace Go.Proofs.Ytpghmnpbfaichaa
open Go.Sx Go.Pl
set_option linter.unusedVariables false
set_option maxRecDepth 100000
/-- What comes behind both remainders. -/
noncomputable def nmQ (p0 p1 p2 p3 ad sm ng q0 q1 q2 q3 : Int) (P a P_1 a_1 : Nat) (R : SV → List HO → Prop) : Prop := (∀ (M : Mem), 0 + 4 ≤ 4) ∧ (∀ (M : Mem), 0 + 4 ≤ 4) ∧ bif !sm == (0 : Int) then (∀ (M : Mem), (0 : Int) ≤ (0 : Int) ∧ (0 : Int) < (4 : Int)) ∧ (∀ (M : Mem), (0 : Int) ≤ (0 : Int) ∧ (0 : Int) < (4 : Int)) ∧ (∀ (M : Mem), ¬sm = (0 : Int)) ∧ (∀ (M : Mem), 0 + 4 ≤ 4) ∧ R (SV.agg [SV.v (vu64 (Int.tmod (IntKind.wrap IntKind.u64 ((↑(limb (fR P a) 0) : Int) * (↑(limb (fR P_1 a_1) 0) : Int))) sm)), SV.v (vu64 (0 : Int)), SV.v (vu64 (0 : Int)), SV.v (vu64 (0 : Int))]) [] else rcC [p0, p1, p2, p3, ad, sm, ng, q0, q1, q2, q3] (eI (fR P a)) (eI (fR P_1 a_1)) fun (P a b : Nat) => rcC [p0, p1, p2, p3, ad, sm, ng, q0, q1, q2, q3] (eI (fG P a b)) [q0, q1, q2, q3] fun (P a b : Nat) => (∀ (M : Mem), 0 + 4 ≤ 4) ∧ R ((eS (fG P a b))) []
theorem nmS (p0 p1 p2 p3 ad sm ng q0 q1 q2 q3 : Int) (a b : Nat) (K : List It → St → Prop) (R : SV → List HO → Prop) : W (xwp Try.prog X K26 [] 60 (fxOf Try.f131 [] []) [] [.at []] ⟨argsS 0 [.agg [.v (.int .u64 p0), .v (.int .u64 p1), .v (.int .u64 p2), .v (.int .u64 p3), .v (.int .i64 ad), .v (.int .u64 sm), .v (.int .u64 ng), .v (.int .u64 q0), .v (.int .u64 q1), .v (.int .u64 q2), .v (.int .u64 q3)], eS a, eS b], []⟩ K R) = W ((reC [p0, p1, p2, p3, ad, sm, ng, q0, q1, q2, q3] (eI a) fun (P a : Nat) => (reC [p0, p1, p2, p3, ad, sm, ng, q0, q1, q2, q3] (eI b) fun (P_1 a_1 : Nat) => nmQ p0 p1 p2 p3 ad sm ng q0 q1 q2 q3 P a P_1 a_1 R) ∧ reC [p0, p1, p2, p3, ad, sm, ng, q0, q1, q2, q3] (eI b) fun (P_1 a_1 : Nat) => nmQ p0 p1 p2 p3 ad sm ng q0 q1 q2 q3 P a P_1 a_1 R) ∧ (reC [p0, p1, p2, p3, ad, sm, ng, q0, q1, q2, q3] (eI a) fun (P a : Nat) => reC [p0, p1, p2, p3, ad, sm, ng, q0, q1, q2, q3] (eI b) fun (P_1 a_1 : Nat) => nmQ p0 p1 p2 p3 ad sm ng q0 q1 q2 q3 P a P_1 a_1 R) ∧ (reC [p0, p1, p2, p3, ad, sm, ng, q0, q1, q2, q3] (eI a) fun (P a : Nat) => reC [p0, p1, p2, p3, ad, sm, ng, q0, q1, q2, q3] (eI b) fun (P_1 a_1 : Nat) => nmQ p0 p1 p2 p3 ad sm ng q0 q1 q2 q3 P a P_1 a_1 R) ∧ (reC [p0, p1, p2, p3, ad, sm, ng, q0, q1, q2, q3] (eI a) fun (P a : Nat) => reC [p0, p1, p2, p3, ad, sm, ng, q0, q1, q2, q3] (eI b) fun (P_1 a_1 : Nat) => nmQ p0 p1 p2 p3 ad sm ng q0 q1 q2 q3 P a P_1 a_1 R) ∧ (reC [p0, p1, p2, p3, ad, sm, ng, q0, q1, q2, q3] (eI a) fun (P a : Nat) => reC [p0, p1, p2, p3, ad, sm, ng, q0, q1, q2, q3] (eI b) fun (P_1 a_1 : Nat) => nmQ p0 p1 p2 p3 ad sm ng q0 q1 q2 q3 P a P_1 a_1 R) ∧ (reC [p0, p1, p2, p3, ad, sm, ng, q0, q1, q2, q3] (eI a) fun (P a : Nat) => reC [p0, p1, p2, p3, ad, sm, ng, q0, q1, q2, q3] (eI b) fun (P_1 a_1 : Nat) => nmQ p0 p1 p2 p3 ad sm ng q0 q1 q2 q3 P a P_1 a_1 R) ∧ (reC [p0, p1, p2, p3, ad, sm, ng, q0, q1, q2, q3] (eI a) fun (P a : Nat) => reC [p0, p1, p2, p3, ad, sm, ng, q0, q1, q2, q3] (eI b) fun (P_1 a_1 : Nat) => nmQ p0 p1 p2 p3 ad sm ng q0 q1 q2 q3 P a P_1 a_1 R) ∧ (reC [p0, p1, p2, p3, ad, sm, ng, q0, q1, q2, q3] (eI a) fun (P a : Nat) => reC [p0, p1, p2, p3, ad, sm, ng, q0, q1, q2, q3] (eI b) fun (P_1 a_1 : Nat) => nmQ p0 p1 p2 p3 ad sm ng q0 q1 q2 q3 P a P_1 a_1 R) ∧ (reC [p0, p1, p2, p3, ad, sm, ng, q0, q1, q2, q3] (eI a) fun (P a : Nat) => reC [p0, p1, p2, p3, ad, sm, ng, q0, q1, q2, q3] (eI b) fun (P_1 a_1 : Nat) => nmQ p0 p1 p2 p3 ad sm ng q0 q1 q2 q3 P a P_1 a_1 R) ∧ (reC [p0, p1, p2, p3, ad, sm, ng, q0, q1, q2, q3] (eI a) fun (P a : Nat) => reC [p0, p1, p2, p3, ad, sm, ng, q0, q1, q2, q3] (eI b) fun (P_1 a_1 : Nat) => nmQ p0 p1 p2 p3 ad sm ng q0 q1 q2 q3 P a P_1 a_1 R) ∧ (reC [p0, p1, p2, p3, ad, sm, ng, q0, q1, q2, q3] (eI a) fun (P a : Nat) => reC [p0, p1, p2, p3, ad, sm, ng, q0, q1, q2, q3] (eI b) fun (P_1 a_1 : Nat) => nmQ p0 p1 p2 p3 ad sm ng q0 q1 q2 q3 P a P_1 a_1 R) ∧ (reC [p0, p1, p2, p3, ad, sm, ng, q0, q1, q2, q3] (eI a) fun (P a : Nat) => (reC [p0, p1, p2, p3, ad, sm, ng, q0, q1, q2, q3] (eI b) fun (P_1 a_1 : Nat) => nmQ p0 p1 p2 p3 ad sm ng q0 q1 q2 q3 P a P_1 a_1 R) ∧ reC [p0, p1, p2, p3, ad, sm, ng, q0, q1, q2, q3] (eI b) fun (P_1 a_1 : Nat) => nmQ p0 p1 p2 p3 ad sm ng q0 q1 q2 q3 P a P_1 a_1 R) ∧ (reC [p0, p1, p2, p3, ad, sm, ng, q0, q1, q2, q3] (eI a) fun (P a : Nat) => reC [p0, p1, p2, p3, ad, sm, ng, q0, q1, q2, q3] (eI b) fun (P_1 a_1 : Nat) => nmQ p0 p1 p2 p3 ad sm ng q0 q1 q2 q3 P a P_1 a_1 R) ∧ (reC [p0, p1, p2, p3, ad, sm, ng, q0, q1, q2, q3] (eI a) fun (P a : Nat) => reC [p0, p1, p2, p3, ad, sm, ng, q0, q1, q2, q3] (eI b) fun (P_1 a_1 : Nat) => nmQ p0 p1 p2 p3 ad sm ng q0 q1 q2 q3 P a P_1 a_1 R) ∧ (reC [p0, p1, p2, p3, ad, sm, ng, q0, q1, q2, q3] (eI a) fun (P a : Nat) => reC [p0, p1, p2, p3, ad, sm, ng, q0, q1, q2, q3] (eI b) fun (P_1 a_1 : Nat) => nmQ p0 p1 p2 p3 ad sm ng q0 q1 q2 q3 P a P_1 a_1 R) ∧ (reC [p0, p1, p2, p3, ad, sm, ng, q0, q1, q2, q3] (eI a) fun (P a : Nat) => reC [p0, p1, p2, p3, ad, sm, ng, q0, q1, q2, q3] (eI b) fun (P_1 a_1 : Nat) => nmQ p0 p1 p2 p3 ad sm ng q0 q1 q2 q3 P a P_1 a_1 R) ∧ (reC [p0, p1, p2, p3, ad, sm, ng, q0, q1, q2, q3] (eI a) fun (P a : Nat) => reC [p0, p1, p2, p3, ad, sm, ng, q0, q1, q2, q3] (eI b) fun (P_1 a_1 : Nat) => nmQ p0 p1 p2 p3 ad sm ng q0 q1 q2 q3 P a P_1 a_1 R) ∧ (reC [p0, p1, p2, p3, ad, sm, ng, q0, q1, q2, q3] (eI a) fun (P a : Nat) => reC [p0, p1, p2, p3, ad, sm, ng, q0, q1, q2, q3] (eI b) fun (P_1 a_1 : Nat) => nmQ p0 p1 p2 p3 ad sm ng q0 q1 q2 q3 P a P_1 a_1 R) ∧ (reC [p0, p1, p2, p3, ad, sm, ng, q0, q1, q2, q3] (eI a) fun (P a : Nat) => reC [p0, p1, p2, p3, ad, sm, ng, q0, q1, q2, q3] (eI b) fun (P_1 a_1 : Nat) => nmQ p0 p1 p2 p3 ad sm ng q0 q1 q2 q3 P a P_1 a_1 R) ∧ (reC [p0, p1, p2, p3, ad, sm, ng, q0, q1, q2, q3] (eI a) fun (P a : Nat) => reC [p0, p1, p2, p3, ad, sm, ng, q0, q1, q2, q3] (eI b) fun (P_1 a_1 : Nat) => nmQ p0 p1 p2 p3 ad sm ng q0 q1 q2 q3 P a P_1 a_1 R) ∧ (reC [p0, p1, p2, p3, ad, sm, ng, q0, q1, q2, q3] (eI a) fun (P a : Nat) => reC [p0, p1, p2, p3, ad, sm, ng, q0, q1, q2, q3] (eI b) fun (P_1 a_1 : Nat) => nmQ p0 p1 p2 p3 ad sm ng q0 q1 q2 q3 P a P_1 a_1 R) ∧ (reC [p0, p1, p2, p3, ad, sm, ng, q0, q1, q2, q3] (eI a) fun (P a : Nat) => reC [p0, p1, p2, p3, ad, sm, ng, q0, q1, q2, q3] (eI b) fun (P_1 a_1 : Nat) => nmQ p0 p1 p2 p3 ad sm ng q0 q1 q2 q3 P a P_1 a_1 R) ∧ (reC [p0, p1, p2, p3, ad, sm, ng, q0, q1, q2, q3] (eI a) fun (P a : Nat) => reC [p0, p1, p2, p3, ad, sm, ng, q0, q1, q2, q3] (eI b) fun (P_1 a_1 : Nat) => nmQ p0 p1 p2 p3 ad sm ng q0 q1 q2 q3 P a P_1 a_1 R) ∧ (reC [p0, p1, p2, p3, ad, sm, ng, q0, q1, q2, q3] (eI a) fun (P a : Nat) => reC [p0, p1, p2, p3, ad, sm, ng, q0, q1, q2, q3] (eI b) fun (P_1 a_1 : Nat) => nmQ p0 p1 p2 p3 ad sm ng q0 q1 q2 q3 P a P_1 a_1 R) ∧ (reC [p0, p1, p2, p3, ad, sm, ng, q0, q1, q2, q3] (eI a) fun (P a : Nat) => reC [p0, p1, p2, p3, ad, sm, ng, q0, q1, q2, q3] (eI b) fun (P_1 a_1 : Nat) => nmQ p0 p1 p2 p3 ad sm ng q0 q1 q2 q3 P a P_1 a_1 R) ∧ (reC [p0, p1, p2, p3, ad, sm, ng, q0, q1, q2, q3] (eI a) fun (P a : Nat) => reC [p0, p1, p2, p3, ad, sm, ng, q0, q1, q2, q3] (eI b) fun (P_1 a_1 : Nat) => nmQ p0 p1 p2 p3 ad sm ng q0 q1 q2 q3 P a P_1 a_1 R) ∧ (reC [p0, p1, p2, p3, ad, sm, ng, q0, q1, q2, q3] (eI a) fun (P a : Nat) => reC [p0, p1, p2, p3, ad, sm, ng, q0, q1, q2, q3] (eI b) fun (P_1 a_1 : Nat) => nmQ p0 p1 p2 p3 ad sm ng q0 q1 q2 q3 P a P_1 a_1 R) ∧ (reC [p0, p1, p2, p3, ad, sm, ng, q0, q1, q2, q3] (eI a) fun (P a : Nat) => reC [p0, p1, p2, p3, ad, sm, ng, q0, q1, q2, q3] (eI b) fun (P_1 a_1 : Nat) => nmQ p0 p1 p2 p3 ad sm ng q0 q1 q2 q3 P a P_1 a_1 R) ∧ (reC [p0, p1, p2, p3, ad, sm, ng, q0, q1, q2, q3] (eI a) fun (P a : Nat) => reC [p0, p1, p2, p3, ad, sm, ng, q0, q1, q2, q3] (eI b) fun (P_1 a_1 : Nat) => nmQ p0 p1 p2 p3 ad sm ng q0 q1 q2 q3 P a P_1 a_1 R) ∧ (reC [p0, p1, p2, p3, ad, sm, ng, q0, q1, q2, q3] (eI a) fun (P a : Nat) => reC [p0, p1, p2, p3, ad, sm, ng, q0, q1, q2, q3] (eI b) fun (P_1 a_1 : Nat) => nmQ p0 p1 p2 p3 ad sm ng q0 q1 q2 q3 P a P_1 a_1 R) ∧ (reC [p0, p1, p2, p3, ad, sm, ng, q0, q1, q2, q3] (eI a) fun (P a : Nat) => reC [p0, p1, p2, p3, ad, sm, ng, q0, q1, q2, q3] (eI b) fun (P_1 a_1 : Nat) => nmQ p0 p1 p2 p3 ad sm ng q0 q1 q2 q3 P a P_1 a_1 R) ∧ (reC [p0, p1, p2, p3, ad, sm, ng, q0, q1, q2, q3] (eI a) fun (P a : Nat) => reC [p0, p1, p2, p3, ad, sm, ng, q0, q1, q2, q3] (eI b) fun (P_1 a_1 : Nat) => nmQ p0 p1 p2 p3 ad sm ng q0 q1 q2 q3 P a P_1 a_1 R) ∧ (reC [p0, p1, p2, p3, ad, sm, ng, q0, q1, q2, q3] (eI a) fun (P a : Nat) => reC [p0, p1, p2, p3, ad, sm, ng, q0, q1, q2, q3] (eI b) fun (P_1 a_1 : Nat) => nmQ p0 p1 p2 p3 ad sm ng q0 q1 q2 q3 P a P_1 a_1 R) ∧ (reC [p0, p1, p2, p3, ad, sm, ng, q0, q1, q2, q3] (eI a) fun (P a : Nat) => reC [p0, p1, p2, p3, ad, sm, ng, q0, q1, q2, q3] (eI b) fun (P_1 a_1 : Nat) => nmQ p0 p1 p2 p3 ad sm ng q0 q1 q2 q3 P a P_1 a_1 R) ∧ (reC [p0, p1, p2, p3, ad, sm, ng, q0, q1, q2, q3] (eI a) fun (P a : Nat) => reC [p0, p1, p2, p3, ad, sm, ng, q0, q1, q2, q3] (eI b) fun (P_1 a_1 : Nat) => nmQ p0 p1 p2 p3 ad sm ng q0 q1 q2 q3 P a P_1 a_1 R) ∧ (reC [p0, p1, p2, p3, ad, sm, ng, q0, q1, q2, q3] (eI a) fun (P a : Nat) => reC [p0, p1, p2, p3, ad, sm, ng, q0, q1, q2, q3] (eI b) fun (P_1 a_1 : Nat) => nmQ p0 p1 p2 p3 ad sm ng q0 q1 q2 q3 P a P_1 a_1 R) ∧ (reC [p0, p1, p2, p3, ad, sm, ng, q0, q1, q2, q3] (eI a) fun (P a : Nat) => reC [p0, p1, p2, p3, ad, sm, ng, q0, q1, q2, q3] (eI b) fun (P_1 a_1 : Nat) => nmQ p0 p1 p2 p3 ad sm ng q0 q1 q2 q3 P a P_1 a_1 R) ∧ reC [p0, p1, p2, p3, ad, sm, ng, q0, q1, q2, q3] (eI a) fun (P a : Nat) => reC [p0, p1, p2, p3, ad, sm, ng, q0, q1, q2, q3] (eI b) fun (P_1 a_1 : Nat) => nmQ p0 p1 p2 p3 ad sm ng q0 q1 q2 q3 P a P_1 a_1 R) := by kernel_rfl
theorem bNm : Try.f131.body.isSome = true := by kernel_rfl
theorem nNm (p0 p1 p2 p3 ad sm ng q0 q1 q2 q3 : Int) (a b : Nat) : Nat.ble [SV.agg [.v (.int .u64 p0), .v (.int .u64 p1), .v (.int .u64 p2), .v (.int .u64 p3), .v (.int .i64 ad), .v (.int .u64 sm), .v (.int .u64 ng), .v (.int .u64 q0), .v (.int .u64 q1), .v (.int .u64 q2), .v (.int .u64 q3)], eS a, eS b].length Try.f131.ntmps = true := by kernel_rfl
theorem nm_ok (p0 p1 p2 p3 ad sm ng q0 q1 q2 q3 : Int) (P a b : Nat) (hn : isNm [p0, p1, p2, p3, ad, sm, ng, q0, q1, q2, q3] P) (ha : a < top) (hb : b < top) (Q : SV → List HO → Prop) (hq : Q (eS (fM P a b)) []) : FnOk Try.prog 131 [.agg [.v (.int .u64 p0), .v (.int .u64 p1), .v (.int .u64 p2), .v (.int .u64 p3), .v (.int .i64 ad), .v (.int .u64 sm), .v (.int .u64 ng), .v (.int .u64 q0), .v (.int .u64 q1), .v (.int .u64 q2), .v (.int .u64 q3)], eS a, eS b] [] Q := by
  have hP := isNm_lt hn
  have la := fR_lt P a (by omega)
  have tb := (fR_top hP b).1
  refine fn_of_ok Try.func131 bNm ?_ ?_
  · exact nNm p0 p1 p2 p3 ad sm ng q0 q1 q2 q3 a b
  refine run_sound hm 60 ((nmS p0 p1 p2 p3 ad sm ng q0 q1 q2 q3 a b _ _).mpr ⟨?_⟩)
  rcases isNm_sm p0 p1 p2 p3 ad sm ng q0 q1 q2 q3 hn with ⟨hs, hl⟩ | ⟨hs, hg, S, hS, e1, e2, hr⟩
  · have h0 : ¬ sm = 0 := by omega
    rw [← small_mul (by omega) hl, ← hs] at hq
    have q : nmQ p0 p1 p2 p3 ad sm ng q0 q1 q2 q3 P a P b Q := by
      unfold nmQ
      simp only [cond_not, cond_beq, forall_const, if_neg h0]
      repeat' (first | refine And.intro ?_ ?_ | exact hq)
      all_goals first
        | exact h0
        | omega
    repeat' (first | exact q | refine And.intro ?_ ?_ | refine reC_mk P a hn ha ?_ | refine reC_mk P b hn hb ?_)
  · rw [← fG_two P a b S e2 hr] at hq
    have tg : fG P (fR P a) (fR P b) < P := fG_lt (by omega) _ _
    have q : nmQ p0 p1 p2 p3 ad sm ng q0 q1 q2 q3 P a P b Q := by
      unfold nmQ
      simp only [cond_not, cond_beq, forall_const, if_pos hs]
      refine And.intro (by omega) (And.intro (by omega) (rcC_mk P (fR P a) (fR P b) hn hg la tb ?_))
      exact ⟨⟨P, fG P (fR P a) (fR P b), S, hn, hg, rfl, e1, tg, by omega, And.intro (by omega) hq⟩⟩
    repeat' (first | exact q | refine And.intro ?_ ?_ | refine reC_mk P a hn ha ?_ | refine reC_mk P b hn hb ?_)
noncomputable def gNm : List SV → List HO → Option ((SV → List HO → Prop) → Prop)
  | [.agg [.v (.int .u64 p0), .v (.int .u64 p1), .v (.int .u64 p2), .v (.int .u64 p3), .v (.int .i64 ad), .v (.int .u64 sm), .v (.int .u64 ng), .v (.int .u64 q0), .v (.int .u64 q1), .v (.int .u64 q2), .v (.int .u64 q3)], .agg [.v (.int .u64 a0), .v (.int .u64 a1), .v (.int .u64 a2), .v (.int .u64 a3)], .agg [.v (.int .u64 b0), .v (.int .u64 b1), .v (.int .u64 b2), .v (.int .u64 b3)]], [] => some fun Q => reC2 [p0, p1, p2, p3, ad, sm, ng, q0, q1, q2, q3] [a0, a1, a2, a3] [b0, b1, b2, b3] fun P a b => Q (eS (fM P a b)) []
  | _, _ => none
theorem gNm_ok (args : List SV) (h : List HO) (tr : (SV → List HO → Prop) → Prop) (Q : SV → List HO → Prop) (hc : gNm args h = some tr) (ht : tr Q) : FnOk Try.prog 131 args h Q := by
  unfold gNm at hc
  split at hc
  · rename_i p0 p1 p2 p3 ad sm ng q0 q1 q2 q3 a0 a1 a2 a3 b0 b1 b2 b3
    simp only [Option.some.injEq] at hc
    subst hc
    obtain ⟨P, a, b, hn, e1, e2, ha, hb, hq⟩ := ht.h
    simp only [List.cons.injEq, and_true] at e1 e2
    obtain ⟨rfl, rfl, rfl, rfl⟩ := e1
    obtain ⟨rfl, rfl, rfl, rfl⟩ := e2
    exact nm_ok p0 p1 p2 p3 ad sm ng q0 q1 q2 q3 P a b hn ha hb Q hq
  · cases hc
noncomputable def K27 : Con Try.prog := K26.add 131 gNm gNm_ok
end Go.Proofs.Ytpghmnpbfaichaa
/- The fields' products, by the sort. -/
namespace Go.Proofs.Ytpghmnpbfaichaa
open Go.Sx Go.Pl
set_option linter.unusedVariables false
set_option maxRecDepth 100000
theorem fmS (s : Int) (a b : Nat) (K : List It → St → Prop) (R : SV → List HO → Prop) : W (xwp Try.prog X K27 [(75, [])] 60 (fxOf Try.f130 [] []) [] [.at []] ⟨argsS 0 [.v (.int .i64 s), eS a, eS b], []⟩ K R) = W (bif s == (0 : Int) then (∀ (M : Mem), 11 ≤ 11) ∧ (∀ (M : Mem), 11 ≤ 11) ∧ reC2 [(16513537 : Int), (0 : Int), (0 : Int), (0 : Int), (9 : Int), (16513537 : Int), (0 : Int), (0 : Int), (0 : Int), (0 : Int), (0 : Int)] (eI a) (eI b) fun (P a b : Nat) => (∀ (M : Mem), 0 + 4 ≤ 4) ∧ R ((eS (fM P a b))) [] else bif s == (1 : Int) then (∀ (M : Mem), 11 ≤ 11) ∧ (∀ (M : Mem), 11 ≤ 11) ∧ reC2 [(16521217 : Int), (0 : Int), (0 : Int), (0 : Int), (11 : Int), (16521217 : Int), (0 : Int), (0 : Int), (0 : Int), (0 : Int), (0 : Int)] (eI a) (eI b) fun (P a b : Nat) => (∀ (M : Mem), 0 + 4 ≤ 4) ∧ R ((eS (fM P a b))) [] else bif s == (2 : Int) then (∀ (M : Mem), 11 ≤ 11) ∧ (∀ (M : Mem), 11 ≤ 11) ∧ reC2 [(11037532056220336129 : Int), (2469829653914515739 : Int), (0 : Int), (4611686018427387904 : Int), (32 : Int), (0 : Int), (11037532056220336127 : Int), (10122100416058490895 : Int), (15551789045973377255 : Int), (8617542898466512152 : Int), (679271340751763220 : Int)] (eI a) (eI b) fun (P a b : Nat) => (∀ (M : Mem), 0 + 4 ≤ 4) ∧ R ((eS (fM P a b))) [] else bif s == (3 : Int) then (∀ (M : Mem), 11 ≤ 11) ∧ (∀ (M : Mem), 11 ≤ 11) ∧ reC2 [(10108024940646105089 : Int), (2469829653919213789 : Int), (0 : Int), (4611686018427387904 : Int), (32 : Int), (0 : Int), (10108024940646105087 : Int), (18200867980676431887 : Int), (7474641938123724515 : Int), (9200329640471491984 : Int), (679271340771891881 : Int)] (eI a) (eI b) fun (P a b : Nat) => (∀ (M : Mem), 0 + 4 ≤ 4) ∧ R ((eS (fM P a b))) [] else (∀ (M : Mem), 11 ≤ 11) ∧ (∀ (M : Mem), 11 ≤ 11) ∧ (∀ (M : Mem), 4 ≤ 4) ∧ R (SV.agg [SV.v (vu64 (0 : Int)), SV.v (vu64 (0 : Int)), SV.v (vu64 (0 : Int)), SV.v (vu64 (0 : Int))]) []) := by kernel_rfl
theorem bFm : Try.f130.body.isSome = true := by kernel_rfl
theorem nFm (s : Int) (a b : Nat) : Nat.ble [SV.v (.int .i64 s), eS a, eS b].length Try.f130.ntmps = true := by kernel_rfl
theorem fm_ok (s : Int) (a b : Nat) (ha : a < top) (hb : b < top) (Q : SV → List HO → Prop) (hq : Q (eS (fMu s a b)) []) : FnOk Try.prog 130 [.v (.int .i64 s), eS a, eS b] [] Q := by
  refine fn_of_ok Try.func130 bFm ?_ ?_
  · exact nFm s a b
  refine run_sound hm 60 ((fmS s a b _ _).mpr ⟨?_⟩)
  simp only [cond_beq]
  refine ite_intro (fun h0 => ?_) (fun h0 => ?_)
  · subst h0
    exact And.intro (fun _ => by omega) (And.intro (fun _ => by omega) (reC2_mk _ a b .p ha hb ⟨fun _ => by omega, hq⟩))
  refine ite_intro (fun h1 => ?_) (fun h1 => ?_)
  · subst h1
    exact And.intro (fun _ => by omega) (And.intro (fun _ => by omega) (reC2_mk _ a b .q ha hb ⟨fun _ => by omega, hq⟩))
  refine ite_intro (fun h2 => ?_) (fun h2 => ?_)
  · subst h2
    exact And.intro (fun _ => by omega) (And.intro (fun _ => by omega) (reC2_mk _ a b .r ha hb ⟨fun _ => by omega, hq⟩))
  refine ite_intro (fun h3 => ?_) (fun h3 => ?_)
  · subst h3
    exact And.intro (fun _ => by omega) (And.intro (fun _ => by omega) (reC2_mk _ a b .t ha hb ⟨fun _ => by omega, hq⟩))
  refine And.intro (fun _ => by omega) (And.intro (fun _ => by omega) (And.intro (fun _ => by omega) ?_))
  rw [fMu, if_pos (fP_no h0 h1 h2 h3), eS_zero] at hq
  exact hq
noncomputable def gFm : List SV → List HO → Option ((SV → List HO → Prop) → Prop)
  | [.v (.int .i64 s), .agg [.v (.int .u64 a0), .v (.int .u64 a1), .v (.int .u64 a2), .v (.int .u64 a3)], .agg [.v (.int .u64 b0), .v (.int .u64 b1), .v (.int .u64 b2), .v (.int .u64 b3)]], [] => some fun Q => c2C [a0, a1, a2, a3] [b0, b1, b2, b3] fun a b => Q (eS (fMu s a b)) []
  | _, _ => none
theorem gFm_ok (args : List SV) (h : List HO) (tr : (SV → List HO → Prop) → Prop) (Q : SV → List HO → Prop) (hc : gFm args h = some tr) (ht : tr Q) : FnOk Try.prog 130 args h Q := by
  unfold gFm at hc
  split at hc
  · rename_i s a0 a1 a2 a3 b0 b1 b2 b3
    simp only [Option.some.injEq] at hc
    subst hc
    obtain ⟨a, b, e1, e2, ha, hb, hq⟩ := ht.h
    simp only [List.cons.injEq, and_true] at e1 e2
    obtain ⟨rfl, rfl, rfl, rfl⟩ := e1
    obtain ⟨rfl, rfl, rfl, rfl⟩ := e2
    exact fm_ok s a b ha hb Q hq
  · cases hc
noncomputable def K28 : Con Try.prog := K27.add 130 gFm gFm_ok
end Go.Proofs.Ytpghmnpbfaichaa
/- The values of nodes. -/
namespace Go.Sx
open Go.RowKit
/-- A nil slice with an error beside it, told as a row. -/
theorem FnOk.nilT {P : Program} {m : Nat} {f : FuncId} {args : List SV} {h : List HO} {Q : SV → List HO → Prop} (T : TypeId) (sz : Nat) (k : FnOkM P m f args h fun r h' => Q r h' ∨ (∃ y, r = .tup [.v (.slice none 0 0), .v y] ∧ h' = [] ∧ Q (.tup [.o 0, .v y]) [.rowc T sz 0 (.lit 1 [])])) : FnOkM P m f args h Q := by
  intro F hF w0 e hm0 S hw
  refine (k F hF w0 e hm0 S hw).mono fun E w' hE => ?_
  obtain ⟨e', r, h', hq, h2, h3, h4⟩ := hE
  rcases hq with hq | ⟨y, rfl, rfl, hq⟩
  · exact ⟨e', r, h', hq, h2, h3, h4⟩
  · refine ⟨e'.setR 0 (.slice none 0 0), .tup [.o 0, .v y], _, hq, ⟨Nat.zero_lt_one, trivial, trivial⟩, ?_, by rw [h4]; simp [den, denL, Env.setR]⟩
    exact h3.newRowc hF (w' := w') T sz 0 _ (.slice none 0 0) (fun _ => ⟨[], World.ownsRow_nil w' 0 T sz, fun u hu => (by cases hu), fun k hk => by omega⟩) (fun b hb => by cases hb) ⟨rfl, rfl, rfl, Nat.le_refl _, fun _ _ _ => rfl⟩
end Go.Sx
namespace Go.Pl
open Go.Sx
noncomputable def valD (s : Int) (qs : List Qy) (vs out : List Nat) (x : Nd) : Option Nat :=
  if x.op = 1 then some x.v else if x.op = 5 then some (fNg s (gE out x.a.toNat)) else if x.op = 6 then some (fAd s (gE out x.a.toNat) (gE out x.b.toNat)) else if x.op = 7 then some (fMu s (gE out x.a.toNat) (gE out x.b.toNat)) else if x.op = 8 then some (fMu s x.v (gE out x.a.toNat))
  else if idxF (sameQ x.op x.a x.b) 0 qs < 0 then none else some (gE vs (idxF (sameQ x.op x.a x.b) 0 qs).toNat)
noncomputable def valsN (s : Int) (qs : List Qy) (vs : List Nat) : List Nat → List Nd → Option (List Nat)
  | out, [] => some out
  | out, x :: r => match valD s qs vs out x with
    | none => none
    | some v => valsN s qs vs (out ++ [fAd s v 0]) r
theorem valsN_some {s : Int} {qs : List Qy} {vs out : List Nat} {x : Nd} {r : List Nd} {v : Nat} (h : valD s qs vs out x = some v) : valsN s qs vs out (x :: r) = valsN s qs vs (out ++ [fAd s v 0]) r := by rw [valsN, h]
theorem valsN_none {s : Int} {qs : List Qy} {vs out : List Nat} {x : Nd} {r : List Nd} (h : valD s qs vs out x = none) : valsN s qs vs out (x :: r) = none := by rw [valsN, h]
/-- What Values answers: the values, the error. -/
noncomputable def vlR (s : Int) (qs : List Qy) (vs : List Nat) (l : List Nd) : List Nat × Int :=
  if fP s = 0 then ([], 20) else if ordN 0 l = false then ([], 110) else if vs.length ≠ qs.length then ([], 50) else match valsN s qs vs [] l with
    | none => ([], 50)
    | some out => (out, 0)
theorem idxF_lt {α : Type} (p : α → Bool) : ∀ (l : List α) (k : Nat), idxF p k l < ((k + l.length : Nat) : Int)
  | [], k => by simp only [idxF]; omega
  | x :: r, k => by
    rw [idxF]
    split
    · simp; omega
    · have := idxF_lt p r (k + 1)
      rw [List.length_cons]
      omega
theorem valD_c (s : Int) (qs : List Qy) (vs out : List Nat) {x : Nd} (h : x.op = 1) : valD s qs vs out x = some x.v := by
  unfold valD
  rw [if_pos h]
theorem valD_n (s : Int) (qs : List Qy) (vs out : List Nat) {x : Nd} (h : x.op = 5) : valD s qs vs out x = some (fNg s (gE out x.a.toNat)) := by
  unfold valD
  rw [if_neg (by omega), if_pos h]
theorem valD_a (s : Int) (qs : List Qy) (vs out : List Nat) {x : Nd} (h : x.op = 6) : valD s qs vs out x = some (fAd s (gE out x.a.toNat) (gE out x.b.toNat)) := by
  unfold valD
  rw [if_neg (by omega), if_neg (by omega), if_pos h]
theorem valD_m (s : Int) (qs : List Qy) (vs out : List Nat) {x : Nd} (h : x.op = 7) : valD s qs vs out x = some (fMu s (gE out x.a.toNat) (gE out x.b.toNat)) := by
  unfold valD
  rw [if_neg (by omega), if_neg (by omega), if_neg (by omega), if_pos h]
theorem valD_s (s : Int) (qs : List Qy) (vs out : List Nat) {x : Nd} (h : x.op = 8) : valD s qs vs out x = some (fMu s x.v (gE out x.a.toNat)) := by
  unfold valD
  rw [if_neg (by omega), if_neg (by omega), if_neg (by omega), if_neg (by omega), if_pos h]
theorem valD_q (s : Int) (qs : List Qy) (vs out : List Nat) {x : Nd} (h : 2 ≤ x.op ∧ x.op ≤ 4) : valD s qs vs out x = if idxF (sameQ x.op x.a x.b) 0 qs < 0 then none else some (gE vs (idxF (sameQ x.op x.a x.b) 0 qs).toNat) := by
  unfold valD
  rw [if_neg (by omega), if_neg (by omega), if_neg (by omega), if_neg (by omega), if_neg (by omega)]
theorem fP_top (s : Int) : fP s = 0 ∨ 2 < fP s ∧ 2 * fP s < top := by
  unfold fP
  simp only [top]
  repeat' split
  all_goals omega
theorem fAd_top (s : Int) (a b : Nat) : fAd s a b < top := by
  rw [fAd]
  rcases fP_top s with h | h
  · rw [if_pos h]; exact top0
  · rw [if_neg (by omega)]
    have := fA_lt h.1 a b
    omega
theorem fMu_top (s : Int) (a b : Nat) : fMu s a b < top := by
  rw [fMu]
  rcases fP_top s with h | h
  · rw [if_pos h]; exact top0
  · rw [if_neg (by omega)]
    have := fM_lt h.1 a b
    omega
theorem fNg_top (s : Int) (a : Nat) : fNg s a < top := by
  rw [fNg]
  rcases fP_top s with h | h
  · rw [if_pos h]; exact top0
  · rw [if_neg (by omega)]
    have := fN_lt h.1 a
    omega
theorem gE_top {l : List Nat} (h : ∀ v ∈ l, v < top) (k : Nat) : gE l k < top := by
  unfold gE
  rw [List.getD_eq_getElem?_getD]
  cases hk : l[k]? with
  | none => exact top0
  | some v => exact h v (List.mem_of_getElem? hk)
theorem gN_top {l : List Nd} (h : ∀ x ∈ l, x.v < top) (k : Nat) : (gN l k).v < top := by
  unfold gN
  rw [List.getD_eq_getElem?_getD]
  cases hk : l[k]? with
  | none => exact top0
  | some v => exact h v (List.mem_of_getElem? hk)
theorem cE_snoc {l : List Nat} {k : Nat} (z : Nat) (h : l.length = k) : IsC (k + 1) 4 (Ct.app k (.fn (cE l)) (.lit 4 [.v (.int .u64 (limb z 0 : Nat)), .v (.int .u64 (limb z 1 : Nat)), .v (.int .u64 (limb z 2 : Nat)), .v (.int .u64 (limb z 3 : Nat))])).at (Ct.fn (cE (l ++ [z]))).at := by
  subst h
  exact ofL_snoc (fun (v : Nat) j => .v (.int .u64 (limb v j : Nat))) 0 4 l z _ (fun j hj => by
    match j, hj with
    | 0, _ => rfl
    | 1, _ => rfl
    | 2, _ => rfl
    | 3, _ => rfl)
theorem cE_zero (n : Nat) (c : Nat → Nat → Cell) : IsC 0 4 c (cE []) := fun k hk => by omega
theorem fE_zero (s : Int) : fE s = 0 ↔ fP s ≠ 0 := by
  rw [fE]; split <;> simp_all
theorem fE_of (s : Int) (h : fP s = 0) : fE s = 20 := by rw [fE, if_pos h]
/-- What Values is asked for. -/
structure vlC (n nq nv : Nat) (cn cq cv : Nat → Nat → Cell) (k : List Nd → List Qy → List Nat → Prop) : Prop where
  h : ∃ (l : List Nd) (qs : List Qy) (vs : List Nat), n = l.length ∧ IsC n 7 cn (cN l) ∧ nq = qs.length ∧ IsC nq 3 cq (cQ qs) ∧ nv = vs.length ∧ IsC nv 4 cv (cE vs) ∧ l.length ≤ 4398046511104 ∧ qs.length ≤ 4398046511104 ∧ (∀ x ∈ l, x.v < top) ∧ (∀ v ∈ vs, v < top) ∧ k l qs vs
end Go.Pl
namespace Go.Proofs.Ytpghmnpbfaichaa
open Go.Sx Go.Pl
set_option linter.unusedVariables false
set_option maxRecDepth 100000
theorem vlc (s : Int) (b2 b3 : Bool) (l : List Nd) (qs : List (Int × Int × Int)) (vs out : List Nat) (n nq nv k M : Nat) (K : List It → St → Prop) (R : SV → List HO → Prop) : W (xwp Try.prog X K28 [(122, []), (126, []), (129, []), (137, [])] 60 (fxOf Try.f33 [] [⟨[0,1,0,1,1,1,1,1], [0,2,3,14,47,48,49], []⟩]) [.as 52 (.v (.iface 102 (.agg #[.int .u64 (limb (gN l k).v 0 : Nat), .int .u64 (limb (gN l k).v 1 : Nat), .int .u64 (limb (gN l k).v 2 : Nat), .int .u64 (limb (gN l k).v 3 : Nat)])))] (.at [0,0,1,0,1,1,1,1,1] :: .rnd [0,0,1,0,1,1,1,1,1] M :: [.blk 1, .at [1, 1, 1, 1, 1, 1]]) ⟨[(0, .v (.int .i64 s)), (2, .x 0 []), (3, .x 1 []), (14, .o 2), (47, .o 3), (48, .v (.int .i64 (n : Int))), (49, .v (.int .i64 (k : Int)))], [.ext b2 (.s false 3 nq (cQ qs)), .ext b3 (.s false 4 nv (cE vs)), .rowc 41 4 k (.fn (cE out)), .rowc 82 1 n (.fn (cS l))]⟩ K R) = W (bif decide ((↑k : Int) < (↑n : Int)) then (∀ (M : Mem), (0 : Int) ≤ (↑k : Int) ∧ (↑k : Int) < (↑n : Int)) ∧ (∀ (M : Mem), k < n) ∧ (∀ (M : Mem), stV (gN l k) = Value.iface 102 (Value.agg (Array.mk [vu64 (↑(limb (gN l k).4 0) : Int), vu64 (↑(limb (gN l k).4 1) : Int), vu64 (↑(limb (gN l k).4 2) : Int), vu64 (↑(limb (gN l k).4 3) : Int)]))) ∧ (∀ (M : Mem), 0 + 4 ≤ 4) ∧ (∀ (M : Mem), 0 + 4 ≤ 4) ∧ c2C (eI (gN l k).4) [(0 : Int), (0 : Int), (0 : Int), (0 : Int)] fun (a b : Nat) => (∀ (M : Mem), (k + 1) * 32 ≤ 140737488355328 ∧ k + 1 ≤ 140737488355328) ∧ K [It.rnd [0, 0, 1, 0, 1, 1, 1, 1, 1] M, It.blk 1, It.at [1, 1, 1, 1, 1, 1]] (St.mk [(0, SV.v (vi64 s)), (2, SV.x 0 []), (3, SV.x 1 []), (14, SV.o 2), (47, SV.o 3), (48, SV.v (vi64 (↑n : Int))), (49, SV.v (vi64 (IntKind.wrap IntKind.i64 ((↑k : Int) + (1 : Int)))))] [HO.ext b2 (Cell.s false 3 nq (cQ qs)), HO.ext b3 (Cell.s false 4 nv (cE vs)), HO.rowc 41 4 (k + 1) (Ct.app k (Ct.fn (cE out)) (Ct.lit 4 [Cell.v (vu64 (↑(limb (fAd s a b) 0) : Int)), Cell.v (vu64 (↑(limb (fAd s a b) 1) : Int)), Cell.v (vu64 (↑(limb (fAd s a b) 2) : Int)), Cell.v (vu64 (↑(limb (fAd s a b) 3) : Int))])), HO.rowc 82 1 n (Ct.fn (cS l))]) else R (SV.tup [SV.o 0, SV.v (vi64 (0 : Int))]) [HO.rowc 41 4 k (Ct.fn (cE out))]) := by kernel_rfl
theorem vln (s : Int) (b2 b3 : Bool) (l : List Nd) (qs : List (Int × Int × Int)) (vs out : List Nat) (n nq nv k M : Nat) (K : List It → St → Prop) (R : SV → List HO → Prop) : W (xwp Try.prog X K28 [(122, []), (126, []), (129, []), (137, [])] 60 (fxOf Try.f33 [] [⟨[0,1,0,1,1,1,1,1], [0,2,3,14,47,48,49], []⟩]) [.as 52 (.v (.iface 129 (.agg #[.int .i64 (gN l k).a])))] (.at [0,0,1,0,1,1,1,1,1] :: .rnd [0,0,1,0,1,1,1,1,1] M :: [.blk 1, .at [1, 1, 1, 1, 1, 1]]) ⟨[(0, .v (.int .i64 s)), (2, .x 0 []), (3, .x 1 []), (14, .o 2), (47, .o 3), (48, .v (.int .i64 (n : Int))), (49, .v (.int .i64 (k : Int)))], [.ext b2 (.s false 3 nq (cQ qs)), .ext b3 (.s false 4 nv (cE vs)), .rowc 41 4 k (.fn (cE out)), .rowc 82 1 n (.fn (cS l))]⟩ K R) = W (bif decide ((↑k : Int) < (↑n : Int)) then (∀ (M : Mem), (0 : Int) ≤ (↑k : Int) ∧ (↑k : Int) < (↑n : Int)) ∧ (∀ (M : Mem), k < n) ∧ (∀ (M : Mem), stV (gN l k) = Value.iface 129 (Value.agg (Array.mk [vi64 (gN l k).2]))) ∧ (∀ (M : Mem), (0 : Int) ≤ (gN l k).2 ∧ (gN l k).2 < (↑k : Int)) ∧ (∀ (M : Mem), Int.toNat (gN l k).2 < k) ∧ c1C (eI (gE out (Int.toNat (gN l k).2))) fun (a : Nat) => (∀ (M : Mem), 0 + 4 ≤ 4) ∧ (∀ (M : Mem), 0 + 4 ≤ 4) ∧ c2C (eI (fNg s a)) [(0 : Int), (0 : Int), (0 : Int), (0 : Int)] fun (a b : Nat) => (∀ (M : Mem), (k + 1) * 32 ≤ 140737488355328 ∧ k + 1 ≤ 140737488355328) ∧ K [It.rnd [0, 0, 1, 0, 1, 1, 1, 1, 1] M, It.blk 1, It.at [1, 1, 1, 1, 1, 1]] (St.mk [(0, SV.v (vi64 s)), (2, SV.x 0 []), (3, SV.x 1 []), (14, SV.o 2), (47, SV.o 3), (48, SV.v (vi64 (↑n : Int))), (49, SV.v (vi64 (IntKind.wrap IntKind.i64 ((↑k : Int) + (1 : Int)))))] [HO.ext b2 (Cell.s false 3 nq (cQ qs)), HO.ext b3 (Cell.s false 4 nv (cE vs)), HO.rowc 41 4 (k + 1) (Ct.app k (Ct.fn (cE out)) (Ct.lit 4 [Cell.v (vu64 (↑(limb (fAd s a b) 0) : Int)), Cell.v (vu64 (↑(limb (fAd s a b) 1) : Int)), Cell.v (vu64 (↑(limb (fAd s a b) 2) : Int)), Cell.v (vu64 (↑(limb (fAd s a b) 3) : Int))])), HO.rowc 82 1 n (Ct.fn (cS l))]) else R (SV.tup [SV.o 0, SV.v (vi64 (0 : Int))]) [HO.rowc 41 4 k (Ct.fn (cE out))]) := by kernel_rfl
theorem vla (s : Int) (b2 b3 : Bool) (l : List Nd) (qs : List (Int × Int × Int)) (vs out : List Nat) (n nq nv k M : Nat) (K : List It → St → Prop) (R : SV → List HO → Prop) : W (xwp Try.prog X K28 [(122, []), (126, []), (129, []), (137, [])] 60 (fxOf Try.f33 [] [⟨[0,1,0,1,1,1,1,1], [0,2,3,14,47,48,49], []⟩]) [.as 52 (.v (.iface 131 (.agg #[.int .i64 (gN l k).a, .int .i64 (gN l k).b])))] (.at [0,0,1,0,1,1,1,1,1] :: .rnd [0,0,1,0,1,1,1,1,1] M :: [.blk 1, .at [1, 1, 1, 1, 1, 1]]) ⟨[(0, .v (.int .i64 s)), (2, .x 0 []), (3, .x 1 []), (14, .o 2), (47, .o 3), (48, .v (.int .i64 (n : Int))), (49, .v (.int .i64 (k : Int)))], [.ext b2 (.s false 3 nq (cQ qs)), .ext b3 (.s false 4 nv (cE vs)), .rowc 41 4 k (.fn (cE out)), .rowc 82 1 n (.fn (cS l))]⟩ K R) = W (bif decide ((↑k : Int) < (↑n : Int)) then (∀ (M : Mem), (0 : Int) ≤ (↑k : Int) ∧ (↑k : Int) < (↑n : Int)) ∧ (∀ (M : Mem), k < n) ∧ (∀ (M : Mem), stV (gN l k) = Value.iface 131 (Value.agg (Array.mk [vi64 (gN l k).2, vi64 (gN l k).3]))) ∧ (∀ (M : Mem), (0 : Int) ≤ (gN l k).2 ∧ (gN l k).2 < (↑k : Int)) ∧ (∀ (M : Mem), Int.toNat (gN l k).2 < k) ∧ (∀ (M : Mem), (0 : Int) ≤ (gN l k).3 ∧ (gN l k).3 < (↑k : Int)) ∧ (∀ (M : Mem), Int.toNat (gN l k).3 < k) ∧ c2C (eI (gE out (Int.toNat (gN l k).2))) (eI (gE out (Int.toNat (gN l k).3))) fun (a b : Nat) => (∀ (M : Mem), 0 + 4 ≤ 4) ∧ (∀ (M : Mem), 0 + 4 ≤ 4) ∧ c2C (eI (fAd s a b)) [(0 : Int), (0 : Int), (0 : Int), (0 : Int)] fun (a b : Nat) => (∀ (M : Mem), (k + 1) * 32 ≤ 140737488355328 ∧ k + 1 ≤ 140737488355328) ∧ K [It.rnd [0, 0, 1, 0, 1, 1, 1, 1, 1] M, It.blk 1, It.at [1, 1, 1, 1, 1, 1]] (St.mk [(0, SV.v (vi64 s)), (2, SV.x 0 []), (3, SV.x 1 []), (14, SV.o 2), (47, SV.o 3), (48, SV.v (vi64 (↑n : Int))), (49, SV.v (vi64 (IntKind.wrap IntKind.i64 ((↑k : Int) + (1 : Int)))))] [HO.ext b2 (Cell.s false 3 nq (cQ qs)), HO.ext b3 (Cell.s false 4 nv (cE vs)), HO.rowc 41 4 (k + 1) (Ct.app k (Ct.fn (cE out)) (Ct.lit 4 [Cell.v (vu64 (↑(limb (fAd s a b) 0) : Int)), Cell.v (vu64 (↑(limb (fAd s a b) 1) : Int)), Cell.v (vu64 (↑(limb (fAd s a b) 2) : Int)), Cell.v (vu64 (↑(limb (fAd s a b) 3) : Int))])), HO.rowc 82 1 n (Ct.fn (cS l))]) else R (SV.tup [SV.o 0, SV.v (vi64 (0 : Int))]) [HO.rowc 41 4 k (Ct.fn (cE out))]) := by kernel_rfl
theorem vlm (s : Int) (b2 b3 : Bool) (l : List Nd) (qs : List (Int × Int × Int)) (vs out : List Nat) (n nq nv k M : Nat) (K : List It → St → Prop) (R : SV → List HO → Prop) : W (xwp Try.prog X K28 [(122, []), (126, []), (129, []), (137, [])] 60 (fxOf Try.f33 [] [⟨[0,1,0,1,1,1,1,1], [0,2,3,14,47,48,49], []⟩]) [.as 52 (.v (.iface 132 (.agg #[.int .i64 (gN l k).a, .int .i64 (gN l k).b])))] (.at [0,0,1,0,1,1,1,1,1] :: .rnd [0,0,1,0,1,1,1,1,1] M :: [.blk 1, .at [1, 1, 1, 1, 1, 1]]) ⟨[(0, .v (.int .i64 s)), (2, .x 0 []), (3, .x 1 []), (14, .o 2), (47, .o 3), (48, .v (.int .i64 (n : Int))), (49, .v (.int .i64 (k : Int)))], [.ext b2 (.s false 3 nq (cQ qs)), .ext b3 (.s false 4 nv (cE vs)), .rowc 41 4 k (.fn (cE out)), .rowc 82 1 n (.fn (cS l))]⟩ K R) = W (bif decide ((↑k : Int) < (↑n : Int)) then (∀ (M : Mem), (0 : Int) ≤ (↑k : Int) ∧ (↑k : Int) < (↑n : Int)) ∧ (∀ (M : Mem), k < n) ∧ (∀ (M : Mem), stV (gN l k) = Value.iface 132 (Value.agg (Array.mk [vi64 (gN l k).2, vi64 (gN l k).3]))) ∧ (∀ (M : Mem), (0 : Int) ≤ (gN l k).2 ∧ (gN l k).2 < (↑k : Int)) ∧ (∀ (M : Mem), Int.toNat (gN l k).2 < k) ∧ (∀ (M : Mem), (0 : Int) ≤ (gN l k).3 ∧ (gN l k).3 < (↑k : Int)) ∧ (∀ (M : Mem), Int.toNat (gN l k).3 < k) ∧ c2C (eI (gE out (Int.toNat (gN l k).2))) (eI (gE out (Int.toNat (gN l k).3))) fun (a b : Nat) => (∀ (M : Mem), 0 + 4 ≤ 4) ∧ (∀ (M : Mem), 0 + 4 ≤ 4) ∧ c2C (eI (fMu s a b)) [(0 : Int), (0 : Int), (0 : Int), (0 : Int)] fun (a b : Nat) => (∀ (M : Mem), (k + 1) * 32 ≤ 140737488355328 ∧ k + 1 ≤ 140737488355328) ∧ K [It.rnd [0, 0, 1, 0, 1, 1, 1, 1, 1] M, It.blk 1, It.at [1, 1, 1, 1, 1, 1]] (St.mk [(0, SV.v (vi64 s)), (2, SV.x 0 []), (3, SV.x 1 []), (14, SV.o 2), (47, SV.o 3), (48, SV.v (vi64 (↑n : Int))), (49, SV.v (vi64 (IntKind.wrap IntKind.i64 ((↑k : Int) + (1 : Int)))))] [HO.ext b2 (Cell.s false 3 nq (cQ qs)), HO.ext b3 (Cell.s false 4 nv (cE vs)), HO.rowc 41 4 (k + 1) (Ct.app k (Ct.fn (cE out)) (Ct.lit 4 [Cell.v (vu64 (↑(limb (fAd s a b) 0) : Int)), Cell.v (vu64 (↑(limb (fAd s a b) 1) : Int)), Cell.v (vu64 (↑(limb (fAd s a b) 2) : Int)), Cell.v (vu64 (↑(limb (fAd s a b) 3) : Int))])), HO.rowc 82 1 n (Ct.fn (cS l))]) else R (SV.tup [SV.o 0, SV.v (vi64 (0 : Int))]) [HO.rowc 41 4 k (Ct.fn (cE out))]) := by kernel_rfl
theorem vls (s : Int) (b2 b3 : Bool) (l : List Nd) (qs : List (Int × Int × Int)) (vs out : List Nat) (n nq nv k M : Nat) (K : List It → St → Prop) (R : SV → List HO → Prop) : W (xwp Try.prog X K28 [(122, []), (126, []), (129, []), (137, [])] 60 (fxOf Try.f33 [] [⟨[0,1,0,1,1,1,1,1], [0,2,3,14,47,48,49], []⟩]) [.as 52 (.v (.iface 134 (.agg #[.int .i64 (gN l k).a, .int .u64 (limb (gN l k).v 0 : Nat), .int .u64 (limb (gN l k).v 1 : Nat), .int .u64 (limb (gN l k).v 2 : Nat), .int .u64 (limb (gN l k).v 3 : Nat)])))] (.at [0,0,1,0,1,1,1,1,1] :: .rnd [0,0,1,0,1,1,1,1,1] M :: [.blk 1, .at [1, 1, 1, 1, 1, 1]]) ⟨[(0, .v (.int .i64 s)), (2, .x 0 []), (3, .x 1 []), (14, .o 2), (47, .o 3), (48, .v (.int .i64 (n : Int))), (49, .v (.int .i64 (k : Int)))], [.ext b2 (.s false 3 nq (cQ qs)), .ext b3 (.s false 4 nv (cE vs)), .rowc 41 4 k (.fn (cE out)), .rowc 82 1 n (.fn (cS l))]⟩ K R) = W (bif decide ((↑k : Int) < (↑n : Int)) then (∀ (M : Mem), (0 : Int) ≤ (↑k : Int) ∧ (↑k : Int) < (↑n : Int)) ∧ (∀ (M : Mem), k < n) ∧ (∀ (M : Mem), stV (gN l k) = Value.iface 134 (Value.agg (Array.mk [vi64 (gN l k).2, vu64 (↑(limb (gN l k).4 0) : Int), vu64 (↑(limb (gN l k).4 1) : Int), vu64 (↑(limb (gN l k).4 2) : Int), vu64 (↑(limb (gN l k).4 3) : Int)]))) ∧ (∀ (M : Mem), (0 : Int) ≤ (gN l k).2 ∧ (gN l k).2 < (↑k : Int)) ∧ (∀ (M : Mem), Int.toNat (gN l k).2 < k) ∧ c2C (eI (gN l k).4) (eI (gE out (Int.toNat (gN l k).2))) fun (a b : Nat) => (∀ (M : Mem), 0 + 4 ≤ 4) ∧ (∀ (M : Mem), 0 + 4 ≤ 4) ∧ c2C (eI (fMu s a b)) [(0 : Int), (0 : Int), (0 : Int), (0 : Int)] fun (a b : Nat) => (∀ (M : Mem), (k + 1) * 32 ≤ 140737488355328 ∧ k + 1 ≤ 140737488355328) ∧ K [It.rnd [0, 0, 1, 0, 1, 1, 1, 1, 1] M, It.blk 1, It.at [1, 1, 1, 1, 1, 1]] (St.mk [(0, SV.v (vi64 s)), (2, SV.x 0 []), (3, SV.x 1 []), (14, SV.o 2), (47, SV.o 3), (48, SV.v (vi64 (↑n : Int))), (49, SV.v (vi64 (IntKind.wrap IntKind.i64 ((↑k : Int) + (1 : Int)))))] [HO.ext b2 (Cell.s false 3 nq (cQ qs)), HO.ext b3 (Cell.s false 4 nv (cE vs)), HO.rowc 41 4 (k + 1) (Ct.app k (Ct.fn (cE out)) (Ct.lit 4 [Cell.v (vu64 (↑(limb (fAd s a b) 0) : Int)), Cell.v (vu64 (↑(limb (fAd s a b) 1) : Int)), Cell.v (vu64 (↑(limb (fAd s a b) 2) : Int)), Cell.v (vu64 (↑(limb (fAd s a b) 3) : Int))])), HO.rowc 82 1 n (Ct.fn (cS l))]) else R (SV.tup [SV.o 0, SV.v (vi64 (0 : Int))]) [HO.rowc 41 4 k (Ct.fn (cE out))]) := by kernel_rfl
theorem vlq (s : Int) (b2 b3 : Bool) (l : List Nd) (qs : List (Int × Int × Int)) (vs out : List Nat) (n nq nv k M : Nat) (K : List It → St → Prop) (R : SV → List HO → Prop) : W (xwp Try.prog X K28 [(122, []), (126, []), (129, []), (137, [])] 60 (fxOf Try.f33 [] [⟨[0,1,0,1,1,1,1,1], [0,2,3,14,47,48,49], []⟩]) [.as 52 (.v (.iface 103 (.agg #[.int .i64 (gN l k).op, .int .i64 (gN l k).a, .int .i64 (gN l k).b])))] (.at [0,0,1,0,1,1,1,1,1] :: .rnd [0,0,1,0,1,1,1,1,1] M :: [.blk 1, .at [1, 1, 1, 1, 1, 1]]) ⟨[(0, .v (.int .i64 s)), (2, .x 0 []), (3, .x 1 []), (14, .o 2), (47, .o 3), (48, .v (.int .i64 (n : Int))), (49, .v (.int .i64 (k : Int)))], [.ext b2 (.s false 3 nq (cQ qs)), .ext b3 (.s false 4 nv (cE vs)), .rowc 41 4 k (.fn (cE out)), .rowc 82 1 n (.fn (cS l))]⟩ K R) = W (bif decide ((↑k : Int) < (↑n : Int)) then (∀ (M : Mem), (0 : Int) ≤ (↑k : Int) ∧ (↑k : Int) < (↑n : Int)) ∧ (∀ (M : Mem), k < n) ∧ (∀ (M : Mem), stV (gN l k) = Value.iface 103 (Value.agg (Array.mk [vi64 (gN l k).1, vi64 (gN l k).2, vi64 (gN l k).3]))) ∧ (∀ (M : Mem), 0 + 3 ≤ 3) ∧ ∃ (l_1 : List (Int × Int × Int)), nq = List.length l_1 ∧ IsC nq 3 (cQ qs) (cQ l_1) ∧ List.length l_1 ≤ 4398046511104 ∧ bif decide (idxF (sameQ (gN l k).1 (gN l k).2 (gN l k).3) 0 l_1 < (0 : Int)) then R (SV.tup [SV.v (Value.slice none 0 0), SV.v (vi64 (50 : Int))]) [] else (∀ (M : Mem), (0 : Int) ≤ idxF (sameQ (gN l k).1 (gN l k).2 (gN l k).3) 0 l_1 ∧ idxF (sameQ (gN l k).1 (gN l k).2 (gN l k).3) 0 l_1 < (↑nv : Int)) ∧ (∀ (M : Mem), Int.toNat (idxF (sameQ (gN l k).1 (gN l k).2 (gN l k).3) 0 l_1) < nv) ∧ (∀ (M : Mem), 0 + 4 ≤ 4) ∧ c2C (eI (gE vs (Int.toNat (idxF (sameQ (gN l k).1 (gN l k).2 (gN l k).3) 0 l_1)))) [(0 : Int), (0 : Int), (0 : Int), (0 : Int)] fun (a b : Nat) => (∀ (M : Mem), (k + 1) * 32 ≤ 140737488355328 ∧ k + 1 ≤ 140737488355328) ∧ K [It.rnd [0, 0, 1, 0, 1, 1, 1, 1, 1] M, It.blk 1, It.at [1, 1, 1, 1, 1, 1]] (St.mk [(0, SV.v (vi64 s)), (2, SV.x 0 []), (3, SV.x 1 []), (14, SV.o 2), (47, SV.o 3), (48, SV.v (vi64 (↑n : Int))), (49, SV.v (vi64 (IntKind.wrap IntKind.i64 ((↑k : Int) + (1 : Int)))))] [HO.ext b2 (Cell.s false 3 nq (cQ qs)), HO.ext b3 (Cell.s false 4 nv (cE vs)), HO.rowc 41 4 (k + 1) (Ct.app k (Ct.fn (cE out)) (Ct.lit 4 [Cell.v (vu64 (↑(limb (fAd s a b) 0) : Int)), Cell.v (vu64 (↑(limb (fAd s a b) 1) : Int)), Cell.v (vu64 (↑(limb (fAd s a b) 2) : Int)), Cell.v (vu64 (↑(limb (fAd s a b) 3) : Int))])), HO.rowc 82 1 n (Ct.fn (cS l))]) else R (SV.tup [SV.o 0, SV.v (vi64 (0 : Int))]) [HO.rowc 41 4 k (Ct.fn (cE out))]) := by kernel_rfl
theorem vlS (s : Int) (b1 b2 b3 : Bool) (l : List Nd) (qs : List (Int × Int × Int)) (vs : List Nat) (K : List It → St → Prop) (R : SV → List HO → Prop) : W (xwp Try.prog X K28 [(122, []), (126, []), (129, []), (137, [])] 60 (fxOf Try.f33 [] [⟨[0,1,0,1,1,1,1,1], [0,2,3,14,47,48,49], []⟩]) [] [.at []] ⟨argsS 0 [.v (.int .i64 s), .x 0 [], .x 1 [], .x 2 []], [.ext b1 (.s false 7 l.length (cN l)), .ext b2 (.s false 3 qs.length (cQ qs)), .ext b3 (.s false 4 vs.length (cE vs))]⟩ K R) = W ((∀ (M : Mem), 0 + 4 ≤ 4) ∧ bif !fE s == (0 : Int) then R (SV.tup [SV.v (Value.slice none 0 0), SV.v (vi64 (fE s))]) [] else ∃ (l_1 : List Nd), List.length l = List.length l_1 ∧ IsC (List.length l) 7 (cN l) (cN l_1) ∧ List.length l_1 ≤ 4398046511104 ∧ bif ordN 0 l_1 then bif !(↑(List.length vs) : Int) == (↑(List.length qs) : Int) then R (SV.tup [SV.v (Value.slice none 0 0), SV.v (vi64 (50 : Int))]) [] else (∀ (M : Mem), (0 : Int) ≤ (0 : Int) ∧ (0 : Int) ≤ (↑(List.length l) : Int) ∧ (32 : Int) * (↑(List.length l) : Int) ≤ (281474976710656 : Int) ∧ (↑(List.length l) : Int) ≤ (9223372036854775807 : Int)) ∧ K [It.at [0, 1, 0, 1, 1, 1, 1, 1], It.blk 1, It.at [1, 1, 1, 1, 1, 1]] (St.mk [(0, SV.v (vi64 s)), (2, SV.x 0 []), (3, SV.x 1 []), (14, SV.o 2), (47, SV.o 3), (48, SV.v (vi64 (↑(List.length l) : Int))), (49, SV.v (vi64 (0 : Int)))] [HO.ext b2 (Cell.s false 3 (List.length qs) (cQ qs)), HO.ext b3 (Cell.s false 4 (List.length vs) (cE vs)), HO.rowc 41 4 0 (Ct.zero [vu64 (0 : Int), vu64 (0 : Int), vu64 (0 : Int), vu64 (0 : Int)]), HO.rowc 82 1 (List.length l) (Ct.fn (cS l_1))]) else R (SV.tup [SV.v (Value.slice none 0 0), SV.v (vi64 (110 : Int))]) []) := by kernel_rfl
theorem vl_loop (s : Int) (b2 b3 : Bool) (all : List Nd) (qs : List (Int × Int × Int)) (vs : List Nat) (hb : all.length ≤ 4398046511104) (hbq : qs.length ≤ 4398046511104) (ho : ordN 0 all = true) (hl : vs.length = qs.length) (ht : ∀ x ∈ all, x.v < top) (hv : ∀ v ∈ vs, v < top) (Q : SV → List HO → Prop)
    (hq : ∀ out, valsN s qs vs [] all = some out → Q (.tup [.o 0, .v (.int .i64 0)]) [.rowc 41 4 out.length (.fn (cE out))]) (hn : valsN s qs vs [] all = none → Q (.tup [.v (.slice none 0 0), .v (.int .i64 50)]) []) :
    ∀ (d k : Nat) (out : List Nat), k + d = all.length → out.length = k → (∀ z ∈ out, z < top) → valsN s qs vs [] all = valsN s qs vs out (all.drop k) →
    FOk Try.prog Try.f33 Q (.rnd [0,0,1,0,1,1,1,1,1] (d + 1) :: [.blk 1, .at [1, 1, 1, 1, 1, 1]]) ⟨[(0, .v (.int .i64 s)), (2, .x 0 []), (3, .x 1 []), (14, .o 2), (47, .o 3), (48, .v (.int .i64 ((all.length : Nat) : Int))), (49, .v (.int .i64 (k : Int)))], [.ext b2 (.s false 3 qs.length (cQ qs)), .ext b3 (.s false 4 vs.length (cE vs)), .rowc 41 4 k (.fn (cE out)), .rowc 82 1 all.length (.fn (cS all))]⟩
  | 0, k, out, hd, hk, hz, he => by
    refine FOk.rnd (run_sound hm 60 ((vlc s b2 b3 all qs vs out all.length qs.length vs.length k 0 _ _).mpr ⟨?_⟩))
    simp only [cond_dec]
    rw [if_neg (by omega)]
    rw [show k = all.length by omega, List.drop_length, valsN] at he
    have := hq out he
    rw [hk] at this
    exact this
  | d + 1, k, out, hd, hk, hz, he => by
    have hka : k < all.length := by omega
    rw [drop_gN hka] at he
    have hop := ordN_op all 0 ho _ (gN_mem hka)
    have hus := okN_iff k (gN all k)
    have hok : okN k (gN all k) = true := ordN_get ho k (gN all k) (by rw [gN, List.getD_eq_getElem?_getD, List.getElem?_eq_getElem hka]; rfl)
    rw [hok] at hus
    have hus := hus.1 rfl
    have yes : ∀ z, valD s qs vs out (gN all k) = some z → FOk Try.prog Try.f33 Q (.rnd [0,0,1,0,1,1,1,1,1] (d + 1) :: [.blk 1, .at [1, 1, 1, 1, 1, 1]]) ⟨[(0, .v (.int .i64 s)), (2, .x 0 []), (3, .x 1 []), (14, .o 2), (47, .o 3), (48, .v (.int .i64 ((all.length : Nat) : Int))), (49, .v (.int .i64 (IntKind.wrap .i64 ((k : Int) + 1))))], [.ext b2 (.s false 3 qs.length (cQ qs)), .ext b3 (.s false 4 vs.length (cE vs)), .rowc 41 4 (k + 1) (.app k (.fn (cE out)) (.lit 4 [.v (.int .u64 (limb (fAd s z 0) 0 : Nat)), .v (.int .u64 (limb (fAd s z 0) 1 : Nat)), .v (.int .u64 (limb (fAd s z 0) 2 : Nat)), .v (.int .u64 (limb (fAd s z 0) 3 : Nat))])), .rowc 82 1 all.length (.fn (cS all))]⟩ := fun z hz' => by
      rw [wrap_inc _ (by omega)]
      rw [valsN_some hz'] at he
      refine FOk.cv (vl_loop s b2 b3 all qs vs hb hbq ho hl ht hv Q hq hn d (k + 1) (out ++ [fAd s z 0]) (by omega) (by simp [hk]) (fun y hy => ?_) he) ⟨HE.refl _, HE.refl _, ⟨rfl, rfl, rfl, cE_snoc _ hk⟩, HE.refl _, trivial⟩
      rcases List.mem_append.1 hy with h | h
      · exact hz y h
      · rw [List.mem_singleton] at h; rw [h]; exact fAd_top s z 0
    by_cases h : (gN all k).op = 1
    · refine FOk.rnd (run_sound hm 60 ((vlc s b2 b3 all qs vs out all.length qs.length vs.length k (d + 1) _ _).mpr ⟨?_⟩))
      simp only [cond_dec, ← eI_zero]
      rw [if_pos (by omega)]
      refine And.intro (fun _ => by omega) (And.intro (fun _ => by omega) (And.intro (fun _ => stV_c h) ?_))
      refine And.intro (fun _ => by omega) (And.intro (fun _ => by omega) (c2C_mk _ 0 (gN_top ht k) top0 ?_))
      exact And.intro (fun _ => by omega) (yes _ (valD_c s qs vs out h))
    by_cases h : (gN all k).op = 5
    · refine FOk.rnd (run_sound hm 60 ((vln s b2 b3 all qs vs out all.length qs.length vs.length k (d + 1) _ _).mpr ⟨?_⟩))
      simp only [cond_dec, ← eI_zero]
      rw [if_pos (by omega)]
      refine And.intro (fun _ => by omega) (And.intro (fun _ => by omega) (And.intro (fun _ => stV_n h) ?_))
      refine And.intro (fun _ => by omega) (And.intro (fun _ => by omega) (c1C_mk _ (gE_top hz _) (And.intro (fun _ => by omega) (And.intro (fun _ => by omega) (c2C_mk _ 0 (fNg_top _ _) top0 ?_)))))
      exact And.intro (fun _ => by omega) (yes _ (valD_n s qs vs out h))
    by_cases h : (gN all k).op = 6
    · refine FOk.rnd (run_sound hm 60 ((vla s b2 b3 all qs vs out all.length qs.length vs.length k (d + 1) _ _).mpr ⟨?_⟩))
      simp only [cond_dec, ← eI_zero]
      rw [if_pos (by omega)]
      refine And.intro (fun _ => by omega) (And.intro (fun _ => by omega) (And.intro (fun _ => stV_a h) ?_))
      refine And.intro (fun _ => by omega) (And.intro (fun _ => by omega) (And.intro (fun _ => by omega) (And.intro (fun _ => by omega) (c2C_mk _ _ (gE_top hz _) (gE_top hz _) (And.intro (fun _ => by omega) (And.intro (fun _ => by omega) (c2C_mk _ 0 (fAd_top _ _ _) top0 ?_)))))))
      exact And.intro (fun _ => by omega) (yes _ (valD_a s qs vs out h))
    by_cases h : (gN all k).op = 7
    · refine FOk.rnd (run_sound hm 60 ((vlm s b2 b3 all qs vs out all.length qs.length vs.length k (d + 1) _ _).mpr ⟨?_⟩))
      simp only [cond_dec, ← eI_zero]
      rw [if_pos (by omega)]
      refine And.intro (fun _ => by omega) (And.intro (fun _ => by omega) (And.intro (fun _ => stV_m h) ?_))
      refine And.intro (fun _ => by omega) (And.intro (fun _ => by omega) (And.intro (fun _ => by omega) (And.intro (fun _ => by omega) (c2C_mk _ _ (gE_top hz _) (gE_top hz _) (And.intro (fun _ => by omega) (And.intro (fun _ => by omega) (c2C_mk _ 0 (fMu_top _ _ _) top0 ?_)))))))
      exact And.intro (fun _ => by omega) (yes _ (valD_m s qs vs out h))
    by_cases h : (gN all k).op = 8
    · refine FOk.rnd (run_sound hm 60 ((vls s b2 b3 all qs vs out all.length qs.length vs.length k (d + 1) _ _).mpr ⟨?_⟩))
      simp only [cond_dec, ← eI_zero]
      rw [if_pos (by omega)]
      refine And.intro (fun _ => by omega) (And.intro (fun _ => by omega) (And.intro (fun _ => stV_s h) ?_))
      refine And.intro (fun _ => by omega) (And.intro (fun _ => by omega) (c2C_mk _ _ (gN_top ht k) (gE_top hz _) (And.intro (fun _ => by omega) (And.intro (fun _ => by omega) (c2C_mk _ 0 (fMu_top _ _ _) top0 ?_)))))
      exact And.intro (fun _ => by omega) (yes _ (valD_s s qs vs out h))
    by_cases h : 2 ≤ (gN all k).op ∧ (gN all k).op ≤ 4
    · refine FOk.rnd (run_sound hm 60 ((vlq s b2 b3 all qs vs out all.length qs.length vs.length k (d + 1) _ _).mpr ⟨?_⟩))
      simp only [cond_dec, ← eI_zero]
      rw [if_pos (by omega)]
      refine And.intro (fun _ => by omega) (And.intro (fun _ => by omega) (And.intro (fun _ => stV_q h) ?_))
      have hD := valD_q s qs vs out h
      have hlt := idxF_lt (sameQ (gN all k).op (gN all k).a (gN all k).b) qs 0
      refine And.intro (fun _ => by omega) ⟨qs, rfl, IsC.refl _ _ _, hbq, ite_intro (fun hi => ?_) (fun hi => ?_)⟩
      · rw [if_pos hi] at hD
        rw [valsN_none hD] at he
        exact hn he
      · rw [if_neg hi] at hD
        refine And.intro (fun _ => by omega) (And.intro (fun _ => by omega) (And.intro (fun _ => by omega) (c2C_mk _ 0 (gE_top hv _) top0 ?_)))
        exact And.intro (fun _ => by omega) (yes _ hD)
    omega
theorem bVl : Try.f33.body.isSome = true := by kernel_rfl
theorem nVl (s : Int) : Nat.ble [SV.v (.int .i64 s), .x 0 [], .x 1 [], .x 2 []].length Try.f33.ntmps = true := by kernel_rfl
theorem values_ok (s : Int) (b1 b2 b3 : Bool) (l : List Nd) (qs : List (Int × Int × Int)) (vs : List Nat) (hb : l.length ≤ 4398046511104) (hbq : qs.length ≤ 4398046511104) (ht : ∀ x ∈ l, x.v < top) (hv : ∀ v ∈ vs, v < top) (Q : SV → List HO → Prop)
    (hq : Q (.tup [.o 0, .v (.int .i64 (vlR s qs vs l).2)]) [.rowc 41 4 (vlR s qs vs l).1.length (.fn (cE (vlR s qs vs l).1))]) : FnOk Try.prog 33 [.v (.int .i64 s), .x 0 [], .x 1 [], .x 2 []] [.ext b1 (.s false 7 l.length (cN l)), .ext b2 (.s false 3 qs.length (cQ qs)), .ext b3 (.s false 4 vs.length (cE vs))] Q := by
  refine FnOk.mono (FnOk.eqv (r0 := .tup [.o 0, .v (.int .i64 (vlR s qs vs l).2)]) (h0 := [.rowc 41 4 (vlR s qs vs l).1.length (.fn (cE (vlR s qs vs l).1))]) ?_) (fun r h' hh => by rw [hh.1, hh.2]; exact hq)
  refine FnOk.nilT 41 4 (fn_of_ok Try.func33 bVl ?_ ?_)
  · exact nVl s
  refine run_sound hm 60 ((vlS s b1 b2 b3 l qs vs _ _).mpr ⟨?_⟩)
  refine And.intro (fun _ => by omega) ?_
  have bad : ∀ e : Int, vlR s qs vs l = ([], e) → (fun r h' => (r = SV.tup [.o 0, .v (.int .i64 (vlR s qs vs l).2)] ∧ HEs h' [.rowc 41 4 (vlR s qs vs l).1.length (.fn (cE (vlR s qs vs l).1))]) ∨ (∃ y, r = .tup [.v (.slice none 0 0), .v y] ∧ h' = [] ∧ (SV.tup [.o 0, .v y] = SV.tup [.o 0, .v (.int .i64 (vlR s qs vs l).2)] ∧ HEs [HO.rowc 41 4 0 (.lit 1 [])] [.rowc 41 4 (vlR s qs vs l).1.length (.fn (cE (vlR s qs vs l).1))]))) (SV.tup [SV.v (Value.slice none 0 0), SV.v (vi64 e)]) [] := fun e he => by
    rw [he]
    exact .inr ⟨_, rfl, rfl, rfl, ⟨rfl, rfl, rfl, fun k hk => by omega⟩, trivial⟩
  rw [cond_not, cond_beq]
  refine ite_intro (fun h0 => ?_) (fun h0 => ?_)
  · rw [fE_zero] at h0
    refine ⟨l, rfl, IsC.refl _ _ _, hb, cond_intro (fun ho => ?_) (fun ho => ?_)⟩
    · rw [cond_not, cond_beq]
      refine ite_intro (fun hl => ?_) (fun hl => ?_)
      · have hl : vs.length = qs.length := by omega
        refine And.intro (fun _ => by omega) (FOk.loop (l.length + 1) (by kernel_rfl) (FOk.cv (vl_loop s b2 b3 l qs vs hb hbq ho hl ht hv _ (fun out hout => ?_) (fun hnone => ?_) l.length 0 [] (by omega) rfl (by simp) rfl) ⟨HE.refl _, HE.refl _, ⟨rfl, rfl, rfl, fun k hk => by omega⟩, HE.refl _, trivial⟩))
        · have e : vlR s qs vs l = (out, 0) := by rw [vlR, if_neg h0, if_neg (by rw [ho]; simp), if_neg (by omega), hout]
          rw [e]
          exact .inl ⟨rfl, HEs.refl _⟩
        · exact bad 50 (by rw [vlR, if_neg h0, if_neg (by rw [ho]; simp), if_neg (by omega), hnone])
      · exact bad 50 (by rw [vlR, if_neg h0, if_neg (by rw [ho]; simp), if_pos (by omega)])
    · exact bad 110 (by rw [vlR, if_neg h0, if_pos ho])
  · have h0 : fP s = 0 := by
      by_cases h : fP s = 0
      · exact h
      · exact absurd ((fE_zero s).2 h) h0
    rw [fE_of s h0]
    exact bad 20 (by rw [vlR, if_pos h0])
noncomputable def gVl : List SV → List HO → Option ((SV → List HO → Prop) → Prop)
  | [.v (.int .i64 s), .x 0 [], .x 1 [], .x 2 []], [.ext _ (.s false 7 n cn), .ext _ (.s false 3 nq cq), .ext _ (.s false 4 nv cv)] => some fun Q => vlC n nq nv cn cq cv fun l qs vs => Q (.tup [.o 0, .v (.int .i64 (vlR s qs vs l).2)]) [.rowc 41 4 (vlR s qs vs l).1.length (.fn (cE (vlR s qs vs l).1))]
  | _, _ => none
theorem gVl_ok (args : List SV) (h : List HO) (tr : (SV → List HO → Prop) → Prop) (Q : SV → List HO → Prop) (hc : gVl args h = some tr) (ht : tr Q) : FnOk Try.prog 33 args h Q := by
  unfold gVl at hc
  split at hc
  · rename_i s b1 n cn b2 nq cq b3 nv cv
    simp only [Option.some.injEq] at hc
    subst hc
    obtain ⟨l, qs, vs, rfl, h1, rfl, h2, rfl, h3, hb, hbq, hx, hv, hq⟩ := ht.h
    exact FnOk.ac (values_ok s b1 b2 b3 l qs vs hb hbq hx hv Q hq) ⟨⟨rfl, rfl, rfl, rfl, h1⟩, ⟨rfl, rfl, rfl, rfl, h2⟩, ⟨rfl, rfl, rfl, rfl, h3⟩, trivial⟩
  · cases hc
noncomputable def K29 : Con Try.prog := K28.add 33 gVl gVl_ok
end Go.Proofs.Ytpghmnpbfaichaa
/- Lists of elements: compared, copied. -/
namespace Go.Pl
open Go.Sx
theorem ext_gE {l l2 : List Nat} (h : l.length = l2.length) (e : ∀ k, k < l.length → gE l k = gE l2 k) : l = l2 :=
  List.ext_getElem h fun k hk hk2 => by have := e k hk; simpa only [gE, List.getD_eq_getElem?_getD, List.getElem?_eq_getElem hk, List.getElem?_eq_getElem hk2, Option.getD_some] using this
theorem eI_inj {a b : Nat} (ha : a < top) (hb : b < top) (h : eI a = eI b) : a = b := by
  simp only [eI, List.cons.injEq, and_true] at h
  exact eq_of_limbs ha hb (by omega) (by omega) (by omega) (by omega)
/-- A list of elements. -/
structure lE (n : Nat) (c : Nat → Nat → Cell) (k : List Nat → Prop) : Prop where
  h : ∃ l : List Nat, n = l.length ∧ IsC n 4 c (cE l) ∧ l.length ≤ 4398046511104 ∧ (∀ v ∈ l, v < top) ∧ k l
structure lE2 (n n2 : Nat) (c c2 : Nat → Nat → Cell) (k : List Nat → List Nat → Prop) : Prop where
  h : ∃ l l2 : List Nat, n = l.length ∧ IsC n 4 c (cE l) ∧ n2 = l2.length ∧ IsC n2 4 c2 (cE l2) ∧ l.length ≤ 4398046511104 ∧ (∀ v ∈ l, v < top) ∧ (∀ v ∈ l2, v < top) ∧ k l l2
end Go.Pl
namespace Go.Proofs.Ytpghmnpbfaichaa
open Go.Sx Go.Pl
set_option linter.unusedVariables false
set_option maxRecDepth 100000
theorem seR (b b2 : Bool) (l l2 : List Nat) (n n2 k M : Nat) (K : List It → St → Prop) (R : SV → List HO → Prop) : W (xwp Try.prog X K29 [] 60 (fxOf Try.f35 [] [⟨[0,1,0,1,1], [5,4,0,1], []⟩]) [] (.at [0,0,1,0,1,1] :: .rnd [0,0,1,0,1,1] M :: [.blk 0, .at [1,1,1]]) ⟨[(5, .v (.int .i64 (k : Int))), (4, .v (.bool false)), (0, .x 0 []), (1, .x 1 [])], [.ext b (.s false 4 n (cE l)), .ext b2 (.s false 4 n2 (cE l2))]⟩ K R) = W (bif decide ((↑k : Int) < (↑n : Int)) then (∀ (M : Mem), (0 : Int) ≤ (↑k : Int) ∧ (↑k : Int) < (↑n : Int)) ∧ (∀ (M : Mem), k < n) ∧ (∀ (M : Mem), (0 : Int) ≤ (↑k : Int) ∧ (↑k : Int) < (↑n2 : Int)) ∧ (∀ (M : Mem), k < n2) ∧ bif !decide ((eI (gE l k)) = (eI (gE l2 k))) then R (SV.v (Value.bool false)) [] else K [It.rnd [0, 0, 1, 0, 1, 1] M, It.blk 0, It.at [1, 1, 1]] (St.mk [(5, SV.v (vi64 (IntKind.wrap IntKind.i64 ((↑k : Int) + (1 : Int))))), (4, SV.v (Value.bool false)), (0, SV.x 0 []), (1, SV.x 1 [])] [HO.ext b (Cell.s false 4 n (cE l)), HO.ext b2 (Cell.s false 4 n2 (cE l2))]) else R (SV.v (Value.bool true)) []) := by kernel_rfl
theorem seS (b b2 : Bool) (l l2 : List Nat) (n n2 : Nat) (K : List It → St → Prop) (R : SV → List HO → Prop) : W (xwp Try.prog X K29 [] 60 (fxOf Try.f35 [] [⟨[0,1,0,1,1], [5,4,0,1], []⟩]) [] [.at []] ⟨argsS 0 [.x 0 [], .x 1 []], [.ext b (.s false 4 n (cE l)), .ext b2 (.s false 4 n2 (cE l2))]⟩ K R) = W (bif !(↑n : Int) == (↑n2 : Int) then R (SV.v (Value.bool false)) [] else K [It.at [0, 1, 0, 1, 1], It.blk 0, It.at [1, 1, 1]] (St.mk [(5, SV.v (vi64 (0 : Int))), (4, SV.v (Value.bool false)), (0, SV.x 0 []), (1, SV.x 1 [])] [HO.ext b (Cell.s false 4 n (cE l)), HO.ext b2 (Cell.s false 4 n2 (cE l2))])) := by kernel_rfl
theorem ceS (l : List Nat) (K : List It → St → Prop) (R : SV → List HO → Prop) : W (xwp Try.prog X K29 [] 60 (fxOf Try.f65 [] []) [] [.at []] ⟨argsS 0 [.x 0 []], [.ext false (.s false 4 l.length (cE l))]⟩ K R) = W ((∀ (M : Mem), (0 + List.length l) * 32 ≤ 140737488355328 ∧ 0 + List.length l ≤ 140737488355328) ∧ R (SV.o 0) [HO.rowc 41 4 (0 + List.length l) (Ct.app 0 (Ct.lit 4 []) (Ct.fn (cE l)))]) := by kernel_rfl
theorem se_loop (b b2 : Bool) (l l2 : List Nat) (hl : l.length = l2.length) (hb : l.length ≤ 4398046511104) (Q : SV → List HO → Prop) (hq1 : (∀ k, k < l.length → eI (gE l k) = eI (gE l2 k)) → Q (.v (.bool true)) []) (hq0 : (∃ k, k < l.length ∧ ¬ (eI (gE l k) = eI (gE l2 k))) → Q (.v (.bool false)) []) :
    ∀ (d k : Nat), k + d = l.length → (∀ k', k' < k → eI (gE l k') = eI (gE l2 k')) →
    FOk Try.prog Try.f35 Q (.rnd [0,0,1,0,1,1] (d + 1) :: [.blk 0, .at [1,1,1]]) ⟨[(5, .v (.int .i64 (k : Int))), (4, .v (.bool false)), (0, .x 0 []), (1, .x 1 [])], [.ext b (.s false 4 l.length (cE l)), .ext b2 (.s false 4 l2.length (cE l2))]⟩
  | 0, k, hd, he => by
    refine FOk.rnd (run_sound hm 60 ((seR b b2 l l2 l.length l2.length k 0 _ _).mpr ⟨?_⟩))
    simp only [cond_dec]
    rw [if_neg (by omega)]
    exact hq1 fun k' hk' => he k' (by omega)
  | d + 1, k, hd, he => by
    refine FOk.rnd (run_sound hm 60 ((seR b b2 l l2 l.length l2.length k (d + 1) _ _).mpr ⟨?_⟩))
    simp only [cond_dec, cond_not, forall_const]
    rw [if_pos (by omega)]
    repeat' (first | refine And.intro (by omega) ?_ | refine ite_intro (fun h => ?_) (fun h => ?_))
    · rw [wrap_inc _ (by omega)]
      refine se_loop b b2 l l2 hl hb Q hq1 hq0 d (k + 1) (by omega) fun k' hk' => ?_
      by_cases hh : k' = k
      · rw [hh]; exact h
      · exact he k' (by omega)
    · exact hq0 ⟨k, by omega, h⟩
theorem bse : Try.f35.body.isSome = true := by kernel_rfl
theorem nse : Nat.ble [SV.x 0 [], .x 1 []].length Try.f35.ntmps = true := by kernel_rfl
theorem se_ok (b b2 : Bool) (l l2 : List Nat) (hb : l.length ≤ 4398046511104) (Q : SV → List HO → Prop) (hq1 : l.length = l2.length → (∀ k, k < l.length → eI (gE l k) = eI (gE l2 k)) → Q (.v (.bool true)) []) (hq0 : (l.length ≠ l2.length ∨ ∃ k, k < l.length ∧ ¬ (eI (gE l k) = eI (gE l2 k))) → Q (.v (.bool false)) []) : FnOk Try.prog 35 [.x 0 [], .x 1 []] [.ext b (.s false 4 l.length (cE l)), .ext b2 (.s false 4 l2.length (cE l2))] Q := by
  refine fn_of_ok Try.func35 bse ?_ ?_
  · exact nse
  refine run_sound hm 60 ((seS b b2 l l2 l.length l2.length _ _).mpr ⟨?_⟩)
  simp only [cond_not, cond_beq]
  refine ite_intro (fun h => ?_) (fun h => hq0 (.inl (by omega)))
  have h' : l.length = l2.length := by omega
  exact FOk.loop (l.length + 1) (by kernel_rfl) (se_loop b b2 l l2 h' hb Q (hq1 h') (fun hh => hq0 (.inr hh)) l.length 0 (by omega) fun k' hk' => by omega)
noncomputable def g_se : List SV → List HO → Option ((SV → List HO → Prop) → Prop)
  | [.x 0 [], .x 1 []], [.ext _ (.s false 4 n c), .ext _ (.s false 4 n2 c2)] => some fun Q => lE2 n n2 c c2 fun l l2 => Q (.v (.bool (decide (l = l2)))) []
  | _, _ => none
theorem g_se_ok (args : List SV) (h : List HO) (tr : (SV → List HO → Prop) → Prop) (Q : SV → List HO → Prop) (hc : g_se args h = some tr) (ht : tr Q) : FnOk Try.prog 35 args h Q := by
  unfold g_se at hc
  split at hc
  · rename_i b n c b2 n2 c2
    simp only [Option.some.injEq] at hc
    subst hc
    obtain ⟨l, l2, rfl, he, rfl, he2, hb, hv, hv2, hq⟩ := ht.h
    refine FnOk.ac (se_ok b b2 l l2 hb Q (fun h1 h2 => ?_) (fun h1 => ?_)) ⟨⟨rfl, rfl, rfl, rfl, he⟩, ⟨rfl, rfl, rfl, rfl, he2⟩, trivial⟩
    · rw [decide_eq_true (ext_gE h1 fun k hk => eI_inj (gE_top hv k) (gE_top hv2 k) (h2 k hk))] at hq; exact hq
    · rw [decide_eq_false (fun hh => by subst hh; exact h1.elim (fun h => h rfl) (fun ⟨_, _, h⟩ => h rfl))] at hq; exact hq
  · cases hc
theorem bce : Try.f65.body.isSome = true := by kernel_rfl
theorem nce : Nat.ble [SV.x 0 []].length Try.f65.ntmps = true := by kernel_rfl
theorem ce_ok (all : List Nat) (hb : all.length ≤ 4398046511104) (Q : SV → List HO → Prop) (hq : Q (.o 0) [.rowc 41 4 all.length (.fn (cE all))]) : FnOk Try.prog 65 [.x 0 []] [.ext false (.s false 4 all.length (cE all))] Q := by
  refine FnOk.mono (FnOk.eqv (r0 := .o 0) (h0 := [.rowc 41 4 all.length (.fn (cE all))]) ?_) (fun r h' hh => by rw [hh.1, hh.2]; exact hq)
  refine fn_of_ok Try.func65 bce ?_ ?_
  · exact nce
  refine run_sound hm 60 ((ceS all _ _).mpr ⟨?_⟩)
  refine ⟨fun _ => by omega, rfl, ⟨rfl, rfl, by omega, fun k hk j hj => ?_⟩, trivial⟩
  exact appC_ge _ _ _ (Nat.zero_le _)
noncomputable def g_ce : List SV → List HO → Option ((SV → List HO → Prop) → Prop)
  | [.x 0 []], [.ext false (.s false 4 n c)] => some fun Q => lE n c fun l => Q (.o 0) [.rowc 41 4 l.length (.fn (cE l))]
  | _, _ => none
theorem g_ce_ok (args : List SV) (h : List HO) (tr : (SV → List HO → Prop) → Prop) (Q : SV → List HO → Prop) (hc : g_ce args h = some tr) (ht : tr Q) : FnOk Try.prog 65 args h Q := by
  unfold g_ce at hc
  split at hc
  · rename_i n c
    simp only [Option.some.injEq] at hc
    subst hc
    obtain ⟨l, rfl, he, hb, hv, hq⟩ := ht.h
    exact FnOk.ac (ce_ok l hb Q hq) ⟨⟨rfl, rfl, rfl, rfl, he⟩, trivial⟩
  · cases hc
noncomputable def K30 : Con Try.prog := (K29.add 35 g_se g_se_ok).add 65 g_ce g_ce_ok
end Go.Proofs.Ytpghmnpbfaichaa
/- The statements' first line. -/
namespace Go.Pl
open Go.Sx
def alN : List Nd := [⟨3, 0, 0, 0⟩, ⟨1, 0, 0, 3⟩, ⟨7, 0, 1, 0⟩]
theorem limb_lit (n : Nat) (h : n < 18446744073709551616) : limb n 0 = n ∧ limb n 1 = 0 ∧ limb n 2 = 0 ∧ limb n 3 = 0 := limb_small n h
theorem al_c1 : IsC 3 7 (lc 7 [Cell.v (vi64 (3 : Int)), Cell.v (vi64 (0 : Int)), Cell.v (vi64 (0 : Int)), Cell.v (vu64 (0 : Int)), Cell.v (vu64 (0 : Int)), Cell.v (vu64 (0 : Int)), Cell.v (vu64 (0 : Int)), Cell.v (vi64 (1 : Int)), Cell.v (vi64 (0 : Int)), Cell.v (vi64 (0 : Int)), Cell.v (vu64 (3 : Int)), Cell.v (vu64 (0 : Int)), Cell.v (vu64 (0 : Int)), Cell.v (vu64 (0 : Int)), Cell.v (vi64 (7 : Int)), Cell.v (vi64 (0 : Int)), Cell.v (vi64 (1 : Int)), Cell.v (vu64 (0 : Int)), Cell.v (vu64 (0 : Int)), Cell.v (vu64 (0 : Int)), Cell.v (vu64 (0 : Int))]) (cN alN) := by
  obtain ⟨a0, a1, a2, a3⟩ := limb_lit 3 (by omega)
  intro k hk j hj
  have hk' : k = 0 ∨ k = 1 ∨ k = 2 := by omega
  have hj' : j = 0 ∨ j = 1 ∨ j = 2 ∨ j = 3 ∨ j = 4 ∨ j = 5 ∨ j = 6 := by omega
  rcases hk' with rfl | rfl | rfl <;> rcases hj' with rfl | rfl | rfl | rfl | rfl | rfl | rfl <;> simp [lc, cN, gN, alN, ndCell, limb_zero, a0, a1, a2, a3]
theorem al_c2 : IsC 1 3 (lc 3 [Cell.v (vi64 (3 : Int)), Cell.v (vi64 (0 : Int)), Cell.v (vi64 (0 : Int))]) (cQ [(3, 0, 0)]) := by
  intro k hk j hj
  have hk' : k = 0 := by omega
  have hj' : j = 0 ∨ j = 1 ∨ j = 2 := by omega
  subst hk'
  rcases hj' with rfl | rfl | rfl <;> rfl
theorem al_c3 : IsC 1 4 (lc 4 [Cell.v (vu64 (5 : Int)), Cell.v (vu64 (0 : Int)), Cell.v (vu64 (0 : Int)), Cell.v (vu64 (0 : Int))]) (cE [5]) := by
  obtain ⟨a0, a1, a2, a3⟩ := limb_lit 5 (by omega)
  intro k hk j hj
  have hk' : k = 0 := by omega
  have hj' : j = 0 ∨ j = 1 ∨ j = 2 ∨ j = 3 := by omega
  subst hk'
  rcases hj' with rfl | rfl | rfl | rfl <;> simp [lc, cE, gE, a0, a1, a2, a3]
theorem al_c4 : IsC 3 4 (lc 4 [Cell.v (vu64 (5 : Int)), Cell.v (vu64 (0 : Int)), Cell.v (vu64 (0 : Int)), Cell.v (vu64 (0 : Int)), Cell.v (vu64 (3 : Int)), Cell.v (vu64 (0 : Int)), Cell.v (vu64 (0 : Int)), Cell.v (vu64 (0 : Int)), Cell.v (vu64 (15 : Int)), Cell.v (vu64 (0 : Int)), Cell.v (vu64 (0 : Int)), Cell.v (vu64 (0 : Int))]) (cE [5, 3, 15]) := by
  obtain ⟨a0, a1, a2, a3⟩ := limb_lit 5 (by omega)
  obtain ⟨b0, b1, b2, b3⟩ := limb_lit 3 (by omega)
  obtain ⟨c0, c1, c2, c3⟩ := limb_lit 15 (by omega)
  intro k hk j hj
  have hk' : k = 0 ∨ k = 1 ∨ k = 2 := by omega
  have hj' : j = 0 ∨ j = 1 ∨ j = 2 ∨ j = 3 := by omega
  rcases hk' with rfl | rfl | rfl <;> rcases hj' with rfl | rfl | rfl | rfl <;> simp [lc, cE, gE, a0, a1, a2, a3, b0, b1, b2, b3, c0, c1, c2, c3]
theorem fP_0 : fP 0 = 16513537 := rfl
theorem fAd_0 (a : Nat) (h : a < 16513537) : fAd 0 a 0 = a := by
  rw [fAd, if_neg (by rw [fP_0]; omega), fA_eq, fP_0]; omega
theorem fMu_0 (a b : Nat) (h : a * b < 16513537) : fMu 0 a b = a * b := by
  rw [fMu, if_neg (by rw [fP_0]; omega), fM_eq, fP_0]; omega
theorem al_v : vlR 0 [(3, 0, 0)] [5] alN = ([5, 3, 15], 0) := by
  have ho : ordN 0 alN = true := by decide
  rw [vlR, if_neg (by rw [fP_0]; omega), if_neg (by rw [ho]; simp), if_neg (by simp)]
  have h1 : valD 0 [(3, 0, 0)] [5] [] ⟨3, 0, 0, 0⟩ = some 5 := by
    rw [valD_q _ _ _ _ (by simp)]; rfl
  have h2 : valD 0 [(3, 0, 0)] [5] [5] ⟨1, 0, 0, 3⟩ = some 3 := valD_c _ _ _ _ rfl
  have h3 : valD 0 [(3, 0, 0)] [5] [5, 3] ⟨7, 0, 1, 0⟩ = some 15 := by
    rw [valD_m _ _ _ _ rfl]
    exact congrArg some (fMu_0 5 3 (by omega))
  have e : valsN 0 [(3, 0, 0)] [5] [] alN = some [5, 3, 15] := by
    rw [alN, valsN_some h1, fAd_0 5 (by omega), List.nil_append, valsN_some h2, fAd_0 3 (by omega)]
    rw [show [5] ++ [3] = [5, 3] from rfl, valsN_some h3, fAd_0 15 (by omega), valsN]
    rfl
  rw [e]
theorem al_d : degrees alN = [1, 0, 1] := by decide
end Go.Pl
namespace Go.Proofs.Ytpghmnpbfaichaa
open Go.Sx Go.Pl
set_option linter.unusedVariables false
set_option maxRecDepth 100000
theorem alS  (K : List It → St → Prop) (R : SV → List HO → Prop) : W (xwp Try.prog X K30 [(64, [])] 60 (fxOf Try.f31 [] []) [] [.at []] ⟨argsS 0 [], []⟩ K R) = W (vlC 3 1 1 (lc 7 [Cell.v (vi64 (3 : Int)), Cell.v (vi64 (0 : Int)), Cell.v (vi64 (0 : Int)), Cell.v (vu64 (0 : Int)), Cell.v (vu64 (0 : Int)), Cell.v (vu64 (0 : Int)), Cell.v (vu64 (0 : Int)), Cell.v (vi64 (1 : Int)), Cell.v (vi64 (0 : Int)), Cell.v (vi64 (0 : Int)), Cell.v (vu64 (3 : Int)), Cell.v (vu64 (0 : Int)), Cell.v (vu64 (0 : Int)), Cell.v (vu64 (0 : Int)), Cell.v (vi64 (7 : Int)), Cell.v (vi64 (0 : Int)), Cell.v (vi64 (1 : Int)), Cell.v (vu64 (0 : Int)), Cell.v (vu64 (0 : Int)), Cell.v (vu64 (0 : Int)), Cell.v (vu64 (0 : Int))]) (lc 3 [Cell.v (vi64 (3 : Int)), Cell.v (vi64 (0 : Int)), Cell.v (vi64 (0 : Int))]) (lc 4 [Cell.v (vu64 (5 : Int)), Cell.v (vu64 (0 : Int)), Cell.v (vu64 (0 : Int)), Cell.v (vu64 (0 : Int))]) fun (l : List Nd) (qs : List Qy) (vs : List Nat) => bif (vlR (0 : Int) qs vs l).2 == (0 : Int) then lE2 (List.length (vlR (0 : Int) qs vs l).1) 3 (cE (vlR (0 : Int) qs vs l).1) (lc 4 [Cell.v (vu64 (5 : Int)), Cell.v (vu64 (0 : Int)), Cell.v (vu64 (0 : Int)), Cell.v (vu64 (0 : Int)), Cell.v (vu64 (3 : Int)), Cell.v (vu64 (0 : Int)), Cell.v (vu64 (0 : Int)), Cell.v (vu64 (0 : Int)), Cell.v (vu64 (15 : Int)), Cell.v (vu64 (0 : Int)), Cell.v (vu64 (0 : Int)), Cell.v (vu64 (0 : Int))]) fun (l l2 : List Nat) => bif decide (l = l2) then ∃ (l : List Nd), 3 = List.length l ∧ IsC 3 7 (lc 7 [Cell.v (vi64 (3 : Int)), Cell.v (vi64 (0 : Int)), Cell.v (vi64 (0 : Int)), Cell.v (vu64 (0 : Int)), Cell.v (vu64 (0 : Int)), Cell.v (vu64 (0 : Int)), Cell.v (vu64 (0 : Int)), Cell.v (vi64 (1 : Int)), Cell.v (vi64 (0 : Int)), Cell.v (vi64 (0 : Int)), Cell.v (vu64 (3 : Int)), Cell.v (vu64 (0 : Int)), Cell.v (vu64 (0 : Int)), Cell.v (vu64 (0 : Int)), Cell.v (vi64 (7 : Int)), Cell.v (vi64 (0 : Int)), Cell.v (vi64 (1 : Int)), Cell.v (vu64 (0 : Int)), Cell.v (vu64 (0 : Int)), Cell.v (vu64 (0 : Int)), Cell.v (vu64 (0 : Int))]) (cN l) ∧ List.length l ≤ 4398046511104 ∧ ∃ (l_1 : List Int), List.length (degrees l) = List.length l_1 ∧ IsC (List.length (degrees l)) 1 (cI (degrees l)) (cI l_1) ∧ List.length l_1 ≤ 4398046511104 ∧ ∃ (l2 : List Int), 3 = List.length l2 ∧ IsC 3 1 (lc 1 [Cell.v (vi64 (1 : Int)), Cell.v (vi64 (0 : Int)), Cell.v (vi64 (1 : Int))]) (cI l2) ∧ R (SV.v (Value.bool (decide (l_1 = l2)))) [] else R (SV.v (Value.bool false)) [] else R (SV.v (Value.bool false)) []) := by kernel_rfl
theorem bAl : Try.f31.body.isSome = true := by kernel_rfl
theorem nAl : Nat.ble ([] : List SV).length Try.f31.ntmps = true := by kernel_rfl
theorem alive_ok (Q : SV → List HO → Prop) (hq : Q (.v (.bool true)) []) : FnOk Try.prog 31 [] [] Q := by
  refine fn_of_ok Try.func31 bAl ?_ ?_
  · exact nAl
  refine run_sound hm 60 ((alS _ _).mpr ⟨?_⟩)
  refine ⟨⟨alN, [(3, 0, 0)], [5], rfl, al_c1, rfl, al_c2, rfl, al_c3, by decide, by decide, ?_, ?_, ?_⟩⟩
  · intro x hx
    simp only [alN, List.mem_cons, List.not_mem_nil, or_false] at hx
    rcases hx with rfl | rfl | rfl <;> simp only [top] <;> omega
  · intro v hv
    simp only [List.mem_singleton] at hv
    subst hv
    simp only [top]; omega
  · rw [al_v]
    have h15 : ∀ v ∈ [5, 3, 15], v < top := by
      intro v hv
      simp only [List.mem_cons, List.not_mem_nil, or_false] at hv
      rcases hv with rfl | rfl | rfl <;> simp only [top] <;> omega
    refine ⟨⟨[5, 3, 15], [5, 3, 15], rfl, IsC.refl _ _ _, rfl, al_c4, by decide, h15, h15, ?_⟩⟩
    rw [decide_eq_true rfl]
    refine ⟨alN, rfl, al_c1, by decide, [1, 0, 1], by rw [al_d], by rw [al_d]; exact IsC.refl _ _ _, by decide, [1, 0, 1], rfl, ?_, by rw [decide_eq_true rfl]; exact hq⟩
    intro k hk j hj
    have hk' : k = 0 ∨ k = 1 ∨ k = 2 := by omega
    have hj' : j = 0 := by omega
    subst hj'
    rcases hk' with rfl | rfl | rfl <;> rfl
noncomputable def gAl : List SV → List HO → Option ((SV → List HO → Prop) → Prop)
  | [], [] => some fun Q => Q (.v (.bool true)) []
  | _, _ => none
theorem gAl_ok (args : List SV) (h : List HO) (tr : (SV → List HO → Prop) → Prop) (Q : SV → List HO → Prop) (hc : gAl args h = some tr) (ht : tr Q) : FnOk Try.prog 31 args h Q := by
  unfold gAl at hc
  split at hc
  · simp only [Option.some.injEq] at hc
    subst hc
    exact alive_ok Q ht
  · cases hc
noncomputable def K31 : Con Try.prog := K30.add 31 gAl gAl_ok
end Go.Proofs.Ytpghmnpbfaichaa
/- Arguments' types: how their cells are told. -/
namespace Go.Pl
open Go.Sx
/-- A circuit. -/
structure Cir where
  fx : Int
  ad : Int
  ins : Int
  nodes : List Nd
  gates : List Int
  looks : List (List Int × List Int)
  eqs : List (Int × Int)
noncomputable def cirCell (c : Cir) (j : Nat) : Cell :=
  match j with
  | 0 => .v (.int .i64 c.fx)
  | 1 => .v (.int .i64 c.ad)
  | 2 => .v (.int .i64 c.ins)
  | 3 => .s false 7 c.nodes.length (cN c.nodes)
  | 4 => .s false 1 c.gates.length (cI c.gates)
  | 5 => .s false 2 c.looks.length (cL c.looks)
  | 6 => .s false 2 c.eqs.length (cK c.eqs)
  | _ => .v undef
/-- An int is within its kind. -/
def i64 (z : Int) : Prop := -9223372036854775808 ≤ z ∧ z < 9223372036854775808
structure Cir.ok (c : Cir) : Prop where
  f : i64 c.fx
  a : i64 c.ad
  i : i64 c.ins
  n : (∀ x ∈ c.nodes, x.v < top ∧ i64 x.op ∧ i64 x.a ∧ i64 x.b) ∧ c.nodes.length * 56 ≤ 140737488351232
  g : (∀ x ∈ c.gates, i64 x) ∧ c.gates.length * 8 ≤ 140737488351232
  l : (∀ x ∈ c.looks, ((∀ y ∈ x.1, i64 y) ∧ x.1.length * 8 ≤ 140737488351232) ∧ ((∀ y ∈ x.2, i64 y) ∧ x.2.length * 8 ≤ 140737488351232)) ∧ c.looks.length * 48 ≤ 140737488351232
  e : (∀ x ∈ c.eqs, i64 x.1 ∧ i64 x.2) ∧ c.eqs.length * 16 ≤ 140737488351232
end Go.Pl
namespace Go.Proofs.Ytpghmnpbfaichaa
open Go.Sx Go.Pl Go.RowKit Go.ChangeShapes Go.WideShapes Go.ChangeAt
set_option linter.unusedVariables false
set_option maxRecDepth 100000
theorem u3 : Try.prog.underlying 3 = some (.int .i64) := by kernel_rfl
theorem c3 : Try.prog.cellsOf 3 = 1 := by kernel_rfl
theorem u39 : Try.prog.underlying 39 = some (.int .u64) := by kernel_rfl
theorem c39 : Try.prog.cellsOf 39 = 1 := by kernel_rfl
theorem u4 : Try.prog.underlying 4 = some (.bool) := by kernel_rfl
theorem cod_i : Cod Try.prog 3 1 (fun (z : Int) _ => .v (.int .i64 z)) i64 := (Cod.int u3 c3).mono fun z h => by
  simp [Lit.wf, IntKind.min, IntKind.max, IntKind.signed, IntKind.bits] at h
  simp only [i64]; omega
theorem cod_u : Cod Try.prog 39 1 (fun (z : Nat) _ => .v (.int .u64 (z : Int))) (fun z => z < 18446744073709551616) := (Cod.int u39 c39).conv fun z h => by
  simp [Lit.wf, IntKind.min, IntKind.max, IntKind.signed, IntKind.bits] at h
  refine ⟨z.toNat, by omega, fun j _ => ?_⟩
  rw [show ((z.toNat : Nat) : Int) = z by omega]
theorem u41 : Try.prog.underlying 41 = some (.array 4 39) := by kernel_rfl
theorem c41 : Try.prog.cellsOf 41 = 4 := by kernel_rfl
theorem by41 : Try.prog.bytesOf 41 = 32 := by kernel_rfl
theorem cod_e : Cod Try.prog 41 4 (fun (a : Nat) j => .v (.int .u64 (limb a j : Nat))) (fun a => a < top) := (Cod.arr4 cod_u u41 c41).conv fun x h => by
  obtain ⟨h0, h1, h2, h3⟩ := h
  obtain ⟨l0, l1, l2, l3⟩ := limb_nv h0 h1 h2 h3
  refine ⟨nv x.1 x.2.1 x.2.2.1 x.2.2.2, nv_lt h0 h1 h2 h3, fun j hj => ?_⟩
  match j, hj with
  | 0, _ => rw [l0]; rfl
  | 1, _ => rw [l1]; rfl
  | 2, _ => rw [l2]; rfl
  | 3, _ => rw [l3]; rfl
theorem u43 : Try.prog.underlying 43 = some (.struct #[⟨"Op", 3, 0, false, "", "", 0⟩, ⟨"A", 3, 1, false, "", "", 8⟩, ⟨"B", 3, 2, false, "", "", 16⟩, ⟨"V", 41, 3, false, "", "", 24⟩]) := by kernel_rfl
theorem c43 : Try.prog.cellsOf 43 = 7 := by kernel_rfl
theorem cod_n : Cod Try.prog 43 7 ndCell (fun x => x.v < top ∧ i64 x.op ∧ i64 x.a ∧ i64 x.b) where
  cells := c43
  opn := by
    intro H enc w base sp hd n cs d p hl h hw
    obtain ⟨xs, k, _, hx, _, hxl, hf⟩ := DataW.trod_struct u43 h
    simp only [Prod.mk.injEq] at hx
    obtain ⟨rfl, rfl⟩ := hx
    have hW : ∀ x ∈ DataW.weightsEach Try.prog [3, 3, 3, 41] (xs.map (·.1)), x ≤ reachBytes := fun x hx => hw x (by simp only [DataW.weights, u43]; exact hx)
    have hxl : xs.length = 4 := hxl
    obtain ⟨x0, o0, r0⟩ := cod_i.field (off := 0) (hf 0 _ rfl) (by omega) hW rfl (by omega)
    obtain ⟨x1, o1, r1⟩ := cod_i.field (off := 1) (hf 1 _ rfl) (by omega) hW rfl (by omega)
    obtain ⟨x2, o2, r2⟩ := cod_i.field (off := 2) (hf 2 _ rfl) (by omega) hW rfl (by omega)
    obtain ⟨x3, o3, r3⟩ := cod_e.field (off := 3) (hf 3 _ rfl) (by omega) hW rfl (by omega)
    refine ⟨⟨x0, x1, x2, x3⟩, ⟨o3, o0, o1, o2⟩, fun j hj => ?_⟩
    match j, hj with
    | 0, _ => exact r0 0 (by omega)
    | 1, _ => exact r1 0 (by omega)
    | 2, _ => exact r2 0 (by omega)
    | 3, _ => exact r3 0 (by omega)
    | 4, _ => exact r3 1 (by omega)
    | 5, _ => exact r3 2 (by omega)
    | 6, _ => exact r3 3 (by omega)
theorem by43 : Try.prog.bytesOf 43 = 56 := by kernel_rfl
theorem u63 : Try.prog.underlying 63 = some (.struct #[⟨"Kind", 3, 0, false, "", "", 0⟩, ⟨"Col", 3, 1, false, "", "", 8⟩, ⟨"Rot", 3, 2, false, "", "", 16⟩]) := by kernel_rfl
theorem c63 : Try.prog.cellsOf 63 = 3 := by kernel_rfl
theorem cod_q : Cod Try.prog 63 3 qCell (fun x => i64 x.1 ∧ i64 x.2.1 ∧ i64 x.2.2) where
  cells := c63
  opn := by
    intro H enc w base sp hd n cs d p hl h hw
    obtain ⟨xs, k, _, hx, _, hxl, hf⟩ := DataW.trod_struct u63 h
    simp only [Prod.mk.injEq] at hx
    obtain ⟨rfl, rfl⟩ := hx
    have hW : ∀ x ∈ DataW.weightsEach Try.prog [3, 3, 3] (xs.map (·.1)), x ≤ reachBytes := fun x hx => hw x (by simp only [DataW.weights, u63]; exact hx)
    have hxl : xs.length = 3 := hxl
    obtain ⟨x0, o0, r0⟩ := cod_i.field (off := 0) (hf 0 _ rfl) (by omega) hW rfl (by omega)
    obtain ⟨x1, o1, r1⟩ := cod_i.field (off := 1) (hf 1 _ rfl) (by omega) hW rfl (by omega)
    obtain ⟨x2, o2, r2⟩ := cod_i.field (off := 2) (hf 2 _ rfl) (by omega) hW rfl (by omega)
    refine ⟨(x0, x1, x2), ⟨o0, o1, o2⟩, fun j hj => ?_⟩
    match j, hj with
    | 0, _ => exact r0 0 (by omega)
    | 1, _ => exact r1 0 (by omega)
    | 2, _ => exact r2 0 (by omega)
theorem by63 : Try.prog.bytesOf 63 = 24 := by kernel_rfl
theorem u96 : Try.prog.underlying 96 = some (.struct #[⟨"Kind", 3, 0, false, "", "", 0⟩, ⟨"Col", 3, 1, false, "", "", 8⟩]) := by kernel_rfl
theorem c96 : Try.prog.cellsOf 96 = 2 := by kernel_rfl
theorem cod_k : Cod Try.prog 96 2 kCell (fun x => i64 x.1 ∧ i64 x.2) where
  cells := c96
  opn := by
    intro H enc w base sp hd n cs d p hl h hw
    obtain ⟨xs, k, _, hx, _, hxl, hf⟩ := DataW.trod_struct u96 h
    simp only [Prod.mk.injEq] at hx
    obtain ⟨rfl, rfl⟩ := hx
    have hW : ∀ x ∈ DataW.weightsEach Try.prog [3, 3] (xs.map (·.1)), x ≤ reachBytes := fun x hx => hw x (by simp only [DataW.weights, u96]; exact hx)
    have hxl : xs.length = 2 := hxl
    obtain ⟨x0, o0, r0⟩ := cod_i.field (off := 0) (hf 0 _ rfl) (by omega) hW rfl (by omega)
    obtain ⟨x1, o1, r1⟩ := cod_i.field (off := 1) (hf 1 _ rfl) (by omega) hW rfl (by omega)
    refine ⟨(x0, x1), ⟨o0, o1⟩, fun j hj => ?_⟩
    match j, hj with
    | 0, _ => exact r0 0 (by omega)
    | 1, _ => exact r1 0 (by omega)
theorem by96 : Try.prog.bytesOf 96 = 16 := by kernel_rfl
theorem by3 : Try.prog.bytesOf 3 = 8 := by kernel_rfl
theorem u22 : Try.prog.underlying 22 = some (.slice 43) := by kernel_rfl
theorem c22 : Try.prog.cellsOf 22 = 1 := by kernel_rfl
theorem cod_ns : Cod Try.prog 22 1 (fun (l : List Nd) _ => .s false 7 l.length (cN l)) (fun l => (∀ x ∈ l, x.v < top ∧ i64 x.op ∧ i64 x.a ∧ i64 x.b) ∧ l.length * 56 ≤ 140737488351232) := (Cod.slice cod_n u22 c22 dN).mono fun l h => by
  obtain ⟨h1, h2⟩ := h
  rw [by43, reachBytes] at h2
  exact ⟨h1, h2⟩
theorem u23 : Try.prog.underlying 23 = some (.slice 3) := by kernel_rfl
theorem c23 : Try.prog.cellsOf 23 = 1 := by kernel_rfl
theorem cod_is : Cod Try.prog 23 1 (fun (l : List Int) _ => .s false 1 l.length (cI l)) (fun l => (∀ x ∈ l, i64 x) ∧ l.length * 8 ≤ 140737488351232) := (Cod.slice cod_i u23 c23 0).mono fun l h => by
  obtain ⟨h1, h2⟩ := h
  rw [by3, reachBytes] at h2
  exact ⟨h1, h2⟩
theorem u51 : Try.prog.underlying 51 = some (.slice 41) := by kernel_rfl
theorem c51 : Try.prog.cellsOf 51 = 1 := by kernel_rfl
theorem cod_es : Cod Try.prog 51 1 (fun (l : List Nat) _ => .s false 4 l.length (cE l)) (fun l => (∀ x ∈ l, x < top) ∧ l.length * 32 ≤ 140737488351232) := (Cod.slice cod_e u51 c51 0).mono fun l h => by
  obtain ⟨h1, h2⟩ := h
  rw [by41, reachBytes] at h2
  exact ⟨h1, h2⟩
theorem u48 : Try.prog.underlying 48 = some (.slice 63) := by kernel_rfl
theorem c48 : Try.prog.cellsOf 48 = 1 := by kernel_rfl
theorem cod_qs : Cod Try.prog 48 1 (fun (l : List (Int × Int × Int)) _ => .s false 3 l.length (cQ l)) (fun l => (∀ x ∈ l, i64 x.1 ∧ i64 x.2.1 ∧ i64 x.2.2) ∧ l.length * 24 ≤ 140737488351232) := (Cod.slice cod_q u48 c48 dQ).mono fun l h => by
  obtain ⟨h1, h2⟩ := h
  rw [by63, reachBytes] at h2
  exact ⟨h1, h2⟩
theorem u25 : Try.prog.underlying 25 = some (.slice 96) := by kernel_rfl
theorem c25 : Try.prog.cellsOf 25 = 1 := by kernel_rfl
theorem cod_ks : Cod Try.prog 25 1 (fun (l : List (Int × Int)) _ => .s false 2 l.length (cK l)) (fun l => (∀ x ∈ l, i64 x.1 ∧ i64 x.2) ∧ l.length * 16 ≤ 140737488351232) := (Cod.slice cod_k u25 c25 (0, 0)).mono fun l h => by
  obtain ⟨h1, h2⟩ := h
  rw [by96, reachBytes] at h2
  exact ⟨h1, h2⟩
theorem u71 : Try.prog.underlying 71 = some (.struct #[⟨"Inputs", 23, 0, false, "", "", 0⟩, ⟨"Tables", 23, 1, false, "", "", 24⟩]) := by kernel_rfl
theorem c71 : Try.prog.cellsOf 71 = 2 := by kernel_rfl
theorem cod_l : Cod Try.prog 71 2 lCell (fun x => ((∀ y ∈ x.1, i64 y) ∧ x.1.length * 8 ≤ 140737488351232) ∧ ((∀ y ∈ x.2, i64 y) ∧ x.2.length * 8 ≤ 140737488351232)) where
  cells := c71
  opn := by
    intro H enc w base sp hd n cs d p hl h hw
    obtain ⟨xs, k, _, hx, _, hxl, hf⟩ := DataW.trod_struct u71 h
    simp only [Prod.mk.injEq] at hx
    obtain ⟨rfl, rfl⟩ := hx
    have hW : ∀ x ∈ DataW.weightsEach Try.prog [23, 23] (xs.map (·.1)), x ≤ reachBytes := fun x hx => hw x (by simp only [DataW.weights, u71]; exact hx)
    have hxl : xs.length = 2 := hxl
    obtain ⟨x0, o0, r0⟩ := cod_is.field (off := 0) (hf 0 _ rfl) (by omega) hW rfl (by omega)
    obtain ⟨x1, o1, r1⟩ := cod_is.field (off := 1) (hf 1 _ rfl) (by omega) hW rfl (by omega)
    refine ⟨(x0, x1), ⟨o0, o1⟩, fun j hj => ?_⟩
    match j, hj with
    | 0, _ => exact r0 0 (by omega)
    | 1, _ => exact r1 0 (by omega)
theorem by71 : Try.prog.bytesOf 71 = 48 := by kernel_rfl
theorem u24 : Try.prog.underlying 24 = some (.slice 71) := by kernel_rfl
theorem c24 : Try.prog.cellsOf 24 = 1 := by kernel_rfl
theorem cod_ls : Cod Try.prog 24 1 (fun (l : List (List Int × List Int)) _ => .s false 2 l.length (cL l)) (fun l => (∀ x ∈ l, ((∀ y ∈ x.1, i64 y) ∧ x.1.length * 8 ≤ 140737488351232) ∧ ((∀ y ∈ x.2, i64 y) ∧ x.2.length * 8 ≤ 140737488351232)) ∧ l.length * 48 ≤ 140737488351232) := (Cod.slice cod_l u24 c24 ([], [])).mono fun l h => by
  obtain ⟨h1, h2⟩ := h
  rw [by71, reachBytes] at h2
  exact ⟨h1, h2⟩
theorem u27 : Try.prog.underlying 27 = some (.struct #[⟨"Fixed", 3, 0, false, "", "", 0⟩, ⟨"Advice", 3, 1, false, "", "", 8⟩, ⟨"Instance", 3, 2, false, "", "", 16⟩, ⟨"Nodes", 22, 3, false, "", "", 24⟩, ⟨"Gates", 23, 4, false, "", "", 48⟩, ⟨"Lookups", 24, 5, false, "", "", 72⟩, ⟨"Equal", 25, 6, false, "", "", 96⟩]) := by kernel_rfl
theorem c27 : Try.prog.cellsOf 27 = 7 := by kernel_rfl
theorem cod_c : Cod Try.prog 27 7 cirCell Cir.ok where
  cells := c27
  opn := by
    intro H enc w base sp hd n cs d p hl h hw
    obtain ⟨xs, k, _, hx, _, hxl, hf⟩ := DataW.trod_struct u27 h
    simp only [Prod.mk.injEq] at hx
    obtain ⟨rfl, rfl⟩ := hx
    have hW : ∀ x ∈ DataW.weightsEach Try.prog [3, 3, 3, 22, 23, 24, 25] (xs.map (·.1)), x ≤ reachBytes := fun x hx => hw x (by simp only [DataW.weights, u27]; exact hx)
    have hxl : xs.length = 7 := hxl
    obtain ⟨x0, o0, r0⟩ := cod_i.field (off := 0) (hf 0 _ rfl) (by omega) hW rfl (by omega)
    obtain ⟨x1, o1, r1⟩ := cod_i.field (off := 1) (hf 1 _ rfl) (by omega) hW rfl (by omega)
    obtain ⟨x2, o2, r2⟩ := cod_i.field (off := 2) (hf 2 _ rfl) (by omega) hW rfl (by omega)
    obtain ⟨x3, o3, r3⟩ := cod_ns.field (off := 3) (hf 3 _ rfl) (by omega) hW rfl (by omega)
    obtain ⟨x4, o4, r4⟩ := cod_is.field (off := 4) (hf 4 _ rfl) (by omega) hW rfl (by omega)
    obtain ⟨x5, o5, r5⟩ := cod_ls.field (off := 5) (hf 5 _ rfl) (by omega) hW rfl (by omega)
    obtain ⟨x6, o6, r6⟩ := cod_ks.field (off := 6) (hf 6 _ rfl) (by omega) hW rfl (by omega)
    refine ⟨⟨x0, x1, x2, x3, x4, x5, x6⟩, ⟨o0, o1, o2, o3, o4, o5, o6⟩, fun j hj => ?_⟩
    match j, hj with
    | 0, _ => exact r0 0 (by omega)
    | 1, _ => exact r1 0 (by omega)
    | 2, _ => exact r2 0 (by omega)
    | 3, _ => exact r3 0 (by omega)
    | 4, _ => exact r4 0 (by omega)
    | 5, _ => exact r5 0 (by omega)
    | 6, _ => exact r6 0 (by omega)
end Go.Proofs.Ytpghmnpbfaichaa
/- The document's comparison, difference and sum of words. -/
namespace Go.Pl
open Go.Sx
theorem mst (a b c : Nat) (ha : a < 18446744073709551616) (hb : b < 18446744073709551616) (hc : c ≤ 1) : ∃ o : Nat, o < 18446744073709551616 ∧ IntKind.wrap IntKind.u64 (IntKind.wrap IntKind.u64 ((↑a : Int) - (↑b : Int)) - (↑c : Int)) = (o : Int) ∧
    ((a : Int) < (b : Int) → a + 18446744073709551616 * 1 = o + b + c) ∧ (¬ (a : Int) < (b : Int) → IntKind.wrap IntKind.u64 ((↑a : Int) - (↑b : Int)) < (c : Int) → a + 18446744073709551616 * 1 = o + b + c) ∧ (¬ (a : Int) < (b : Int) → ¬ IntKind.wrap IntKind.u64 ((↑a : Int) - (↑b : Int)) < (c : Int) → a + 18446744073709551616 * 0 = o + b + c) := by
  refine ⟨((a : Int) + 2 * 18446744073709551616 - b - c).toNat % 18446744073709551616, Nat.mod_lt _ (by omega), ?_, ?_, ?_, ?_⟩
  · rw [wrap_u64, wrap_u64]; omega
  · intro h; omega
  · intro h h2; rw [wrap_u64] at h2; omega
  · intro h h2; rw [wrap_u64] at h2; omega
theorem pst (a b c : Nat) (ha : a < 18446744073709551616) (hb : b < 18446744073709551616) (hc : c ≤ 1) : ∃ o : Nat, o < 18446744073709551616 ∧ IntKind.wrap IntKind.u64 (IntKind.wrap IntKind.u64 ((↑a : Int) + (↑b : Int)) + (↑c : Int)) = (o : Int) ∧
    (IntKind.wrap IntKind.u64 ((↑a : Int) + (↑b : Int)) < (a : Int) → a + b + c = o + 18446744073709551616 * 1) ∧ (¬ IntKind.wrap IntKind.u64 ((↑a : Int) + (↑b : Int)) < (a : Int) → (o : Int) < IntKind.wrap IntKind.u64 ((↑a : Int) + (↑b : Int)) → a + b + c = o + 18446744073709551616 * 1) ∧ (¬ IntKind.wrap IntKind.u64 ((↑a : Int) + (↑b : Int)) < (a : Int) → ¬ (o : Int) < IntKind.wrap IntKind.u64 ((↑a : Int) + (↑b : Int)) → a + b + c = o + 18446744073709551616 * 0) := by
  refine ⟨(a + b + c) % 18446744073709551616, Nat.mod_lt _ (by omega), ?_, ?_, ?_, ?_⟩
  · rw [wrap_u64, wrap_u64]; omega
  · intro h; rw [wrap_u64] at h; omega
  · intro h h2; rw [wrap_u64] at h h2; omega
  · intro h h2; rw [wrap_u64] at h h2; omega
end Go.Pl
namespace Go.Proofs.Ytpghmnpbfaichaa
open Go.Sx Go.Pl
set_option linter.unusedVariables false
set_option maxRecDepth 100000
theorem rbS (a b : Nat) (K : List It → St → Prop) (R : SV → List HO → Prop) : W (xwp Try.prog X K31 [] 60 (fxOf Try.f87 [([0,1,0,1],5)] []) [] [.at []] ⟨argsS 0 [eS a, eS b], []⟩ K R) = W ((∀ (M : Mem), (0 : Int) ≤ (3 : Int) ∧ (3 : Int) < (4 : Int)) ∧ (∀ (M : Mem), (0 : Int) ≤ (3 : Int) ∧ (3 : Int) < (4 : Int)) ∧ bif !(↑(limb a 3) : Int) == (↑(limb b 3) : Int) then (∀ (M : Mem), (0 : Int) ≤ (3 : Int) ∧ (3 : Int) < (4 : Int)) ∧ (∀ (M : Mem), (0 : Int) ≤ (3 : Int) ∧ (3 : Int) < (4 : Int)) ∧ R (SV.v (Value.bool (decide ((↑(limb a 3) : Int) < (↑(limb b 3) : Int))))) [] else (∀ (M : Mem), (0 : Int) ≤ (2 : Int) ∧ (2 : Int) < (4 : Int)) ∧ (∀ (M : Mem), (0 : Int) ≤ (2 : Int) ∧ (2 : Int) < (4 : Int)) ∧ bif !(↑(limb a 2) : Int) == (↑(limb b 2) : Int) then (∀ (M : Mem), (0 : Int) ≤ (2 : Int) ∧ (2 : Int) < (4 : Int)) ∧ (∀ (M : Mem), (0 : Int) ≤ (2 : Int) ∧ (2 : Int) < (4 : Int)) ∧ R (SV.v (Value.bool (decide ((↑(limb a 2) : Int) < (↑(limb b 2) : Int))))) [] else (∀ (M : Mem), (0 : Int) ≤ (1 : Int) ∧ (1 : Int) < (4 : Int)) ∧ (∀ (M : Mem), (0 : Int) ≤ (1 : Int) ∧ (1 : Int) < (4 : Int)) ∧ bif !(↑(limb a 1) : Int) == (↑(limb b 1) : Int) then (∀ (M : Mem), (0 : Int) ≤ (1 : Int) ∧ (1 : Int) < (4 : Int)) ∧ (∀ (M : Mem), (0 : Int) ≤ (1 : Int) ∧ (1 : Int) < (4 : Int)) ∧ R (SV.v (Value.bool (decide ((↑(limb a 1) : Int) < (↑(limb b 1) : Int))))) [] else (∀ (M : Mem), (0 : Int) ≤ (0 : Int) ∧ (0 : Int) < (4 : Int)) ∧ (∀ (M : Mem), (0 : Int) ≤ (0 : Int) ∧ (0 : Int) < (4 : Int)) ∧ bif !(↑(limb a 0) : Int) == (↑(limb b 0) : Int) then (∀ (M : Mem), (0 : Int) ≤ (0 : Int) ∧ (0 : Int) < (4 : Int)) ∧ (∀ (M : Mem), (0 : Int) ≤ (0 : Int) ∧ (0 : Int) < (4 : Int)) ∧ R (SV.v (Value.bool (decide ((↑(limb a 0) : Int) < (↑(limb b 0) : Int))))) [] else R (SV.v (Value.bool false)) []) := by kernel_rfl
theorem rmS (a b : Nat) (K : List It → St → Prop) (R : SV → List HO → Prop) : W (xwp Try.prog X K31 [] 60 (fxOf Try.f88 [] [⟨[0,1,0,1,1,1], [2,3,4,5,6,7], []⟩]) [] [.at []] ⟨argsS 0 [eS a, eS b], []⟩ K R) = W ((∀ (M : Mem), 4 ≤ 4) ∧ K [It.at [0, 1, 0, 1, 1, 1], It.blk 0, It.at [1, 1, 1, 1]] (St.mk [(2, SV.p 0 0), (3, SV.p 1 0), (4, SV.p 2 0), (5, SV.p 3 0), (6, SV.v (vu64 (0 : Int))), (7, SV.v (vi64 (0 : Int)))] [HO.cells [SV.v (vu64 (↑(limb a 0) : Int)), SV.v (vu64 (↑(limb a 1) : Int)), SV.v (vu64 (↑(limb a 2) : Int)), SV.v (vu64 (↑(limb a 3) : Int))] 41, HO.cells [SV.v (vu64 (↑(limb b 0) : Int)), SV.v (vu64 (↑(limb b 1) : Int)), SV.v (vu64 (↑(limb b 2) : Int)), SV.v (vu64 (↑(limb b 3) : Int))] 41, HO.cells [SV.v (vu64 (0 : Int)), SV.v (vu64 (0 : Int)), SV.v (vu64 (0 : Int)), SV.v (vu64 (0 : Int))] 41, HO.cells [SV.v (vu64 (0 : Int)), SV.v (vu64 (0 : Int)), SV.v (vu64 (0 : Int)), SV.v (vu64 (0 : Int))] 41])) := by kernel_rfl
theorem rm0 (c0 a b M : Nat) (K : List It → St → Prop) (R : SV → List HO → Prop) : W (xwp Try.prog X K31 [] 60 (fxOf Try.f88 [] [⟨[0,1,0,1,1,1], [2,3,4,5,6,7], []⟩]) [] (.at [0,0,1,0,1,1,1] :: .rnd [0,0,1,0,1,1,1] M :: [.blk 0, .at [1, 1, 1, 1]]) ⟨[(2, .p 0 0), (3, .p 1 0), (4, .p 2 0), (5, .p 3 0), (6, .v (.int .u64 (c0 : Nat))), (7, .v (.int .i64 0))], [.cells [.v (.int .u64 (limb a 0 : Nat)), .v (.int .u64 (limb a 1 : Nat)), .v (.int .u64 (limb a 2 : Nat)), .v (.int .u64 (limb a 3 : Nat))] 41, .cells [.v (.int .u64 (limb b 0 : Nat)), .v (.int .u64 (limb b 1 : Nat)), .v (.int .u64 (limb b 2 : Nat)), .v (.int .u64 (limb b 3 : Nat))] 41, .cells [.v (.int .u64 0), .v (.int .u64 0), .v (.int .u64 0), .v (.int .u64 0)] 41, .cells [.v (.int .u64 0), .v (.int .u64 0), .v (.int .u64 0), .v (.int .u64 0)] 41]⟩ K R) = W ((∀ (M : Mem), (0 : Int) ≤ (0 : Int) ∧ (0 : Int) < (4 : Int)) ∧ (∀ (M : Mem), (0 : Int) ≤ (0 : Int) ∧ (0 : Int) < (4 : Int)) ∧ (∀ (M : Mem), (0 : Int) ≤ (0 : Int) ∧ (0 : Int) < (4 : Int)) ∧ (∀ (M : Mem), 0 + 1 ≤ 4) ∧ (∀ (M : Mem), (0 : Int) ≤ (0 : Int) ∧ (0 : Int) < (4 : Int)) ∧ (∀ (M : Mem), (0 : Int) ≤ (0 : Int) ∧ (0 : Int) < (4 : Int)) ∧ bif decide ((↑(limb a 0) : Int) < (↑(limb b 0) : Int)) then K [It.rnd [0, 0, 1, 0, 1, 1, 1] M, It.blk 0, It.at [1, 1, 1, 1]] (St.mk [(2, SV.p 0 0), (3, SV.p 1 0), (4, SV.p 2 0), (5, SV.p 3 0), (6, SV.v (vu64 (1 : Int))), (7, SV.v (vi64 (1 : Int)))] [HO.cells [SV.v (vu64 (↑(limb a 0) : Int)), SV.v (vu64 (↑(limb a 1) : Int)), SV.v (vu64 (↑(limb a 2) : Int)), SV.v (vu64 (↑(limb a 3) : Int))] 41, HO.cells [SV.v (vu64 (↑(limb b 0) : Int)), SV.v (vu64 (↑(limb b 1) : Int)), SV.v (vu64 (↑(limb b 2) : Int)), SV.v (vu64 (↑(limb b 3) : Int))] 41, HO.cells [SV.v (vu64 (0 : Int)), SV.v (vu64 (0 : Int)), SV.v (vu64 (0 : Int)), SV.v (vu64 (0 : Int))] 41, HO.cells [SV.v (vu64 (IntKind.wrap IntKind.u64 (IntKind.wrap IntKind.u64 ((↑(limb a 0) : Int) - (↑(limb b 0) : Int)) - (↑c0 : Int)))), SV.v (vu64 (0 : Int)), SV.v (vu64 (0 : Int)), SV.v (vu64 (0 : Int))] 41]) else bif decide (IntKind.wrap IntKind.u64 ((↑(limb a 0) : Int) - (↑(limb b 0) : Int)) < (↑c0 : Int)) then K [It.rnd [0, 0, 1, 0, 1, 1, 1] M, It.blk 0, It.at [1, 1, 1, 1]] (St.mk [(2, SV.p 0 0), (3, SV.p 1 0), (4, SV.p 2 0), (5, SV.p 3 0), (6, SV.v (vu64 (1 : Int))), (7, SV.v (vi64 (1 : Int)))] [HO.cells [SV.v (vu64 (↑(limb a 0) : Int)), SV.v (vu64 (↑(limb a 1) : Int)), SV.v (vu64 (↑(limb a 2) : Int)), SV.v (vu64 (↑(limb a 3) : Int))] 41, HO.cells [SV.v (vu64 (↑(limb b 0) : Int)), SV.v (vu64 (↑(limb b 1) : Int)), SV.v (vu64 (↑(limb b 2) : Int)), SV.v (vu64 (↑(limb b 3) : Int))] 41, HO.cells [SV.v (vu64 (0 : Int)), SV.v (vu64 (0 : Int)), SV.v (vu64 (0 : Int)), SV.v (vu64 (0 : Int))] 41, HO.cells [SV.v (vu64 (IntKind.wrap IntKind.u64 (IntKind.wrap IntKind.u64 ((↑(limb a 0) : Int) - (↑(limb b 0) : Int)) - (↑c0 : Int)))), SV.v (vu64 (0 : Int)), SV.v (vu64 (0 : Int)), SV.v (vu64 (0 : Int))] 41]) else K [It.rnd [0, 0, 1, 0, 1, 1, 1] M, It.blk 0, It.at [1, 1, 1, 1]] (St.mk [(2, SV.p 0 0), (3, SV.p 1 0), (4, SV.p 2 0), (5, SV.p 3 0), (6, SV.v (vu64 (0 : Int))), (7, SV.v (vi64 (1 : Int)))] [HO.cells [SV.v (vu64 (↑(limb a 0) : Int)), SV.v (vu64 (↑(limb a 1) : Int)), SV.v (vu64 (↑(limb a 2) : Int)), SV.v (vu64 (↑(limb a 3) : Int))] 41, HO.cells [SV.v (vu64 (↑(limb b 0) : Int)), SV.v (vu64 (↑(limb b 1) : Int)), SV.v (vu64 (↑(limb b 2) : Int)), SV.v (vu64 (↑(limb b 3) : Int))] 41, HO.cells [SV.v (vu64 (0 : Int)), SV.v (vu64 (0 : Int)), SV.v (vu64 (0 : Int)), SV.v (vu64 (0 : Int))] 41, HO.cells [SV.v (vu64 (IntKind.wrap IntKind.u64 (IntKind.wrap IntKind.u64 ((↑(limb a 0) : Int) - (↑(limb b 0) : Int)) - (↑c0 : Int)))), SV.v (vu64 (0 : Int)), SV.v (vu64 (0 : Int)), SV.v (vu64 (0 : Int))] 41])) := by kernel_rfl
theorem rm1 (o0 c1 a b M : Nat) (K : List It → St → Prop) (R : SV → List HO → Prop) : W (xwp Try.prog X K31 [] 60 (fxOf Try.f88 [] [⟨[0,1,0,1,1,1], [2,3,4,5,6,7], []⟩]) [] (.at [0,0,1,0,1,1,1] :: .rnd [0,0,1,0,1,1,1] M :: [.blk 0, .at [1, 1, 1, 1]]) ⟨[(2, .p 0 0), (3, .p 1 0), (4, .p 2 0), (5, .p 3 0), (6, .v (.int .u64 (c1 : Nat))), (7, .v (.int .i64 1))], [.cells [.v (.int .u64 (limb a 0 : Nat)), .v (.int .u64 (limb a 1 : Nat)), .v (.int .u64 (limb a 2 : Nat)), .v (.int .u64 (limb a 3 : Nat))] 41, .cells [.v (.int .u64 (limb b 0 : Nat)), .v (.int .u64 (limb b 1 : Nat)), .v (.int .u64 (limb b 2 : Nat)), .v (.int .u64 (limb b 3 : Nat))] 41, .cells [.v (.int .u64 0), .v (.int .u64 0), .v (.int .u64 0), .v (.int .u64 0)] 41, .cells [.v (.int .u64 (o0 : Nat)), .v (.int .u64 0), .v (.int .u64 0), .v (.int .u64 0)] 41]⟩ K R) = W ((∀ (M : Mem), (0 : Int) ≤ (1 : Int) ∧ (1 : Int) < (4 : Int)) ∧ (∀ (M : Mem), (0 : Int) ≤ (1 : Int) ∧ (1 : Int) < (4 : Int)) ∧ (∀ (M : Mem), (0 : Int) ≤ (1 : Int) ∧ (1 : Int) < (4 : Int)) ∧ (∀ (M : Mem), 1 + 1 ≤ 4) ∧ (∀ (M : Mem), (0 : Int) ≤ (1 : Int) ∧ (1 : Int) < (4 : Int)) ∧ (∀ (M : Mem), (0 : Int) ≤ (1 : Int) ∧ (1 : Int) < (4 : Int)) ∧ bif decide ((↑(limb a 1) : Int) < (↑(limb b 1) : Int)) then K [It.rnd [0, 0, 1, 0, 1, 1, 1] M, It.blk 0, It.at [1, 1, 1, 1]] (St.mk [(2, SV.p 0 0), (3, SV.p 1 0), (4, SV.p 2 0), (5, SV.p 3 0), (6, SV.v (vu64 (1 : Int))), (7, SV.v (vi64 (2 : Int)))] [HO.cells [SV.v (vu64 (↑(limb a 0) : Int)), SV.v (vu64 (↑(limb a 1) : Int)), SV.v (vu64 (↑(limb a 2) : Int)), SV.v (vu64 (↑(limb a 3) : Int))] 41, HO.cells [SV.v (vu64 (↑(limb b 0) : Int)), SV.v (vu64 (↑(limb b 1) : Int)), SV.v (vu64 (↑(limb b 2) : Int)), SV.v (vu64 (↑(limb b 3) : Int))] 41, HO.cells [SV.v (vu64 (0 : Int)), SV.v (vu64 (0 : Int)), SV.v (vu64 (0 : Int)), SV.v (vu64 (0 : Int))] 41, HO.cells [SV.v (vu64 (↑o0 : Int)), SV.v (vu64 (IntKind.wrap IntKind.u64 (IntKind.wrap IntKind.u64 ((↑(limb a 1) : Int) - (↑(limb b 1) : Int)) - (↑c1 : Int)))), SV.v (vu64 (0 : Int)), SV.v (vu64 (0 : Int))] 41]) else bif decide (IntKind.wrap IntKind.u64 ((↑(limb a 1) : Int) - (↑(limb b 1) : Int)) < (↑c1 : Int)) then K [It.rnd [0, 0, 1, 0, 1, 1, 1] M, It.blk 0, It.at [1, 1, 1, 1]] (St.mk [(2, SV.p 0 0), (3, SV.p 1 0), (4, SV.p 2 0), (5, SV.p 3 0), (6, SV.v (vu64 (1 : Int))), (7, SV.v (vi64 (2 : Int)))] [HO.cells [SV.v (vu64 (↑(limb a 0) : Int)), SV.v (vu64 (↑(limb a 1) : Int)), SV.v (vu64 (↑(limb a 2) : Int)), SV.v (vu64 (↑(limb a 3) : Int))] 41, HO.cells [SV.v (vu64 (↑(limb b 0) : Int)), SV.v (vu64 (↑(limb b 1) : Int)), SV.v (vu64 (↑(limb b 2) : Int)), SV.v (vu64 (↑(limb b 3) : Int))] 41, HO.cells [SV.v (vu64 (0 : Int)), SV.v (vu64 (0 : Int)), SV.v (vu64 (0 : Int)), SV.v (vu64 (0 : Int))] 41, HO.cells [SV.v (vu64 (↑o0 : Int)), SV.v (vu64 (IntKind.wrap IntKind.u64 (IntKind.wrap IntKind.u64 ((↑(limb a 1) : Int) - (↑(limb b 1) : Int)) - (↑c1 : Int)))), SV.v (vu64 (0 : Int)), SV.v (vu64 (0 : Int))] 41]) else K [It.rnd [0, 0, 1, 0, 1, 1, 1] M, It.blk 0, It.at [1, 1, 1, 1]] (St.mk [(2, SV.p 0 0), (3, SV.p 1 0), (4, SV.p 2 0), (5, SV.p 3 0), (6, SV.v (vu64 (0 : Int))), (7, SV.v (vi64 (2 : Int)))] [HO.cells [SV.v (vu64 (↑(limb a 0) : Int)), SV.v (vu64 (↑(limb a 1) : Int)), SV.v (vu64 (↑(limb a 2) : Int)), SV.v (vu64 (↑(limb a 3) : Int))] 41, HO.cells [SV.v (vu64 (↑(limb b 0) : Int)), SV.v (vu64 (↑(limb b 1) : Int)), SV.v (vu64 (↑(limb b 2) : Int)), SV.v (vu64 (↑(limb b 3) : Int))] 41, HO.cells [SV.v (vu64 (0 : Int)), SV.v (vu64 (0 : Int)), SV.v (vu64 (0 : Int)), SV.v (vu64 (0 : Int))] 41, HO.cells [SV.v (vu64 (↑o0 : Int)), SV.v (vu64 (IntKind.wrap IntKind.u64 (IntKind.wrap IntKind.u64 ((↑(limb a 1) : Int) - (↑(limb b 1) : Int)) - (↑c1 : Int)))), SV.v (vu64 (0 : Int)), SV.v (vu64 (0 : Int))] 41])) := by kernel_rfl
theorem rm2 (o0 o1 c2 a b M : Nat) (K : List It → St → Prop) (R : SV → List HO → Prop) : W (xwp Try.prog X K31 [] 60 (fxOf Try.f88 [] [⟨[0,1,0,1,1,1], [2,3,4,5,6,7], []⟩]) [] (.at [0,0,1,0,1,1,1] :: .rnd [0,0,1,0,1,1,1] M :: [.blk 0, .at [1, 1, 1, 1]]) ⟨[(2, .p 0 0), (3, .p 1 0), (4, .p 2 0), (5, .p 3 0), (6, .v (.int .u64 (c2 : Nat))), (7, .v (.int .i64 2))], [.cells [.v (.int .u64 (limb a 0 : Nat)), .v (.int .u64 (limb a 1 : Nat)), .v (.int .u64 (limb a 2 : Nat)), .v (.int .u64 (limb a 3 : Nat))] 41, .cells [.v (.int .u64 (limb b 0 : Nat)), .v (.int .u64 (limb b 1 : Nat)), .v (.int .u64 (limb b 2 : Nat)), .v (.int .u64 (limb b 3 : Nat))] 41, .cells [.v (.int .u64 0), .v (.int .u64 0), .v (.int .u64 0), .v (.int .u64 0)] 41, .cells [.v (.int .u64 (o0 : Nat)), .v (.int .u64 (o1 : Nat)), .v (.int .u64 0), .v (.int .u64 0)] 41]⟩ K R) = W ((∀ (M : Mem), (0 : Int) ≤ (2 : Int) ∧ (2 : Int) < (4 : Int)) ∧ (∀ (M : Mem), (0 : Int) ≤ (2 : Int) ∧ (2 : Int) < (4 : Int)) ∧ (∀ (M : Mem), (0 : Int) ≤ (2 : Int) ∧ (2 : Int) < (4 : Int)) ∧ (∀ (M : Mem), 2 + 1 ≤ 4) ∧ (∀ (M : Mem), (0 : Int) ≤ (2 : Int) ∧ (2 : Int) < (4 : Int)) ∧ (∀ (M : Mem), (0 : Int) ≤ (2 : Int) ∧ (2 : Int) < (4 : Int)) ∧ bif decide ((↑(limb a 2) : Int) < (↑(limb b 2) : Int)) then K [It.rnd [0, 0, 1, 0, 1, 1, 1] M, It.blk 0, It.at [1, 1, 1, 1]] (St.mk [(2, SV.p 0 0), (3, SV.p 1 0), (4, SV.p 2 0), (5, SV.p 3 0), (6, SV.v (vu64 (1 : Int))), (7, SV.v (vi64 (3 : Int)))] [HO.cells [SV.v (vu64 (↑(limb a 0) : Int)), SV.v (vu64 (↑(limb a 1) : Int)), SV.v (vu64 (↑(limb a 2) : Int)), SV.v (vu64 (↑(limb a 3) : Int))] 41, HO.cells [SV.v (vu64 (↑(limb b 0) : Int)), SV.v (vu64 (↑(limb b 1) : Int)), SV.v (vu64 (↑(limb b 2) : Int)), SV.v (vu64 (↑(limb b 3) : Int))] 41, HO.cells [SV.v (vu64 (0 : Int)), SV.v (vu64 (0 : Int)), SV.v (vu64 (0 : Int)), SV.v (vu64 (0 : Int))] 41, HO.cells [SV.v (vu64 (↑o0 : Int)), SV.v (vu64 (↑o1 : Int)), SV.v (vu64 (IntKind.wrap IntKind.u64 (IntKind.wrap IntKind.u64 ((↑(limb a 2) : Int) - (↑(limb b 2) : Int)) - (↑c2 : Int)))), SV.v (vu64 (0 : Int))] 41]) else bif decide (IntKind.wrap IntKind.u64 ((↑(limb a 2) : Int) - (↑(limb b 2) : Int)) < (↑c2 : Int)) then K [It.rnd [0, 0, 1, 0, 1, 1, 1] M, It.blk 0, It.at [1, 1, 1, 1]] (St.mk [(2, SV.p 0 0), (3, SV.p 1 0), (4, SV.p 2 0), (5, SV.p 3 0), (6, SV.v (vu64 (1 : Int))), (7, SV.v (vi64 (3 : Int)))] [HO.cells [SV.v (vu64 (↑(limb a 0) : Int)), SV.v (vu64 (↑(limb a 1) : Int)), SV.v (vu64 (↑(limb a 2) : Int)), SV.v (vu64 (↑(limb a 3) : Int))] 41, HO.cells [SV.v (vu64 (↑(limb b 0) : Int)), SV.v (vu64 (↑(limb b 1) : Int)), SV.v (vu64 (↑(limb b 2) : Int)), SV.v (vu64 (↑(limb b 3) : Int))] 41, HO.cells [SV.v (vu64 (0 : Int)), SV.v (vu64 (0 : Int)), SV.v (vu64 (0 : Int)), SV.v (vu64 (0 : Int))] 41, HO.cells [SV.v (vu64 (↑o0 : Int)), SV.v (vu64 (↑o1 : Int)), SV.v (vu64 (IntKind.wrap IntKind.u64 (IntKind.wrap IntKind.u64 ((↑(limb a 2) : Int) - (↑(limb b 2) : Int)) - (↑c2 : Int)))), SV.v (vu64 (0 : Int))] 41]) else K [It.rnd [0, 0, 1, 0, 1, 1, 1] M, It.blk 0, It.at [1, 1, 1, 1]] (St.mk [(2, SV.p 0 0), (3, SV.p 1 0), (4, SV.p 2 0), (5, SV.p 3 0), (6, SV.v (vu64 (0 : Int))), (7, SV.v (vi64 (3 : Int)))] [HO.cells [SV.v (vu64 (↑(limb a 0) : Int)), SV.v (vu64 (↑(limb a 1) : Int)), SV.v (vu64 (↑(limb a 2) : Int)), SV.v (vu64 (↑(limb a 3) : Int))] 41, HO.cells [SV.v (vu64 (↑(limb b 0) : Int)), SV.v (vu64 (↑(limb b 1) : Int)), SV.v (vu64 (↑(limb b 2) : Int)), SV.v (vu64 (↑(limb b 3) : Int))] 41, HO.cells [SV.v (vu64 (0 : Int)), SV.v (vu64 (0 : Int)), SV.v (vu64 (0 : Int)), SV.v (vu64 (0 : Int))] 41, HO.cells [SV.v (vu64 (↑o0 : Int)), SV.v (vu64 (↑o1 : Int)), SV.v (vu64 (IntKind.wrap IntKind.u64 (IntKind.wrap IntKind.u64 ((↑(limb a 2) : Int) - (↑(limb b 2) : Int)) - (↑c2 : Int)))), SV.v (vu64 (0 : Int))] 41])) := by kernel_rfl
theorem rm3 (o0 o1 o2 c3 a b M : Nat) (K : List It → St → Prop) (R : SV → List HO → Prop) : W (xwp Try.prog X K31 [] 60 (fxOf Try.f88 [] [⟨[0,1,0,1,1,1], [2,3,4,5,6,7], []⟩]) [] (.at [0,0,1,0,1,1,1] :: .rnd [0,0,1,0,1,1,1] M :: [.blk 0, .at [1, 1, 1, 1]]) ⟨[(2, .p 0 0), (3, .p 1 0), (4, .p 2 0), (5, .p 3 0), (6, .v (.int .u64 (c3 : Nat))), (7, .v (.int .i64 3))], [.cells [.v (.int .u64 (limb a 0 : Nat)), .v (.int .u64 (limb a 1 : Nat)), .v (.int .u64 (limb a 2 : Nat)), .v (.int .u64 (limb a 3 : Nat))] 41, .cells [.v (.int .u64 (limb b 0 : Nat)), .v (.int .u64 (limb b 1 : Nat)), .v (.int .u64 (limb b 2 : Nat)), .v (.int .u64 (limb b 3 : Nat))] 41, .cells [.v (.int .u64 0), .v (.int .u64 0), .v (.int .u64 0), .v (.int .u64 0)] 41, .cells [.v (.int .u64 (o0 : Nat)), .v (.int .u64 (o1 : Nat)), .v (.int .u64 (o2 : Nat)), .v (.int .u64 0)] 41]⟩ K R) = W ((∀ (M : Mem), (0 : Int) ≤ (3 : Int) ∧ (3 : Int) < (4 : Int)) ∧ (∀ (M : Mem), (0 : Int) ≤ (3 : Int) ∧ (3 : Int) < (4 : Int)) ∧ (∀ (M : Mem), (0 : Int) ≤ (3 : Int) ∧ (3 : Int) < (4 : Int)) ∧ (∀ (M : Mem), 3 + 1 ≤ 4) ∧ (∀ (M : Mem), (0 : Int) ≤ (3 : Int) ∧ (3 : Int) < (4 : Int)) ∧ (∀ (M : Mem), (0 : Int) ≤ (3 : Int) ∧ (3 : Int) < (4 : Int)) ∧ bif decide ((↑(limb a 3) : Int) < (↑(limb b 3) : Int)) then K [It.rnd [0, 0, 1, 0, 1, 1, 1] M, It.blk 0, It.at [1, 1, 1, 1]] (St.mk [(2, SV.p 0 0), (3, SV.p 1 0), (4, SV.p 2 0), (5, SV.p 3 0), (6, SV.v (vu64 (1 : Int))), (7, SV.v (vi64 (4 : Int)))] [HO.cells [SV.v (vu64 (↑(limb a 0) : Int)), SV.v (vu64 (↑(limb a 1) : Int)), SV.v (vu64 (↑(limb a 2) : Int)), SV.v (vu64 (↑(limb a 3) : Int))] 41, HO.cells [SV.v (vu64 (↑(limb b 0) : Int)), SV.v (vu64 (↑(limb b 1) : Int)), SV.v (vu64 (↑(limb b 2) : Int)), SV.v (vu64 (↑(limb b 3) : Int))] 41, HO.cells [SV.v (vu64 (0 : Int)), SV.v (vu64 (0 : Int)), SV.v (vu64 (0 : Int)), SV.v (vu64 (0 : Int))] 41, HO.cells [SV.v (vu64 (↑o0 : Int)), SV.v (vu64 (↑o1 : Int)), SV.v (vu64 (↑o2 : Int)), SV.v (vu64 (IntKind.wrap IntKind.u64 (IntKind.wrap IntKind.u64 ((↑(limb a 3) : Int) - (↑(limb b 3) : Int)) - (↑c3 : Int))))] 41]) else bif decide (IntKind.wrap IntKind.u64 ((↑(limb a 3) : Int) - (↑(limb b 3) : Int)) < (↑c3 : Int)) then K [It.rnd [0, 0, 1, 0, 1, 1, 1] M, It.blk 0, It.at [1, 1, 1, 1]] (St.mk [(2, SV.p 0 0), (3, SV.p 1 0), (4, SV.p 2 0), (5, SV.p 3 0), (6, SV.v (vu64 (1 : Int))), (7, SV.v (vi64 (4 : Int)))] [HO.cells [SV.v (vu64 (↑(limb a 0) : Int)), SV.v (vu64 (↑(limb a 1) : Int)), SV.v (vu64 (↑(limb a 2) : Int)), SV.v (vu64 (↑(limb a 3) : Int))] 41, HO.cells [SV.v (vu64 (↑(limb b 0) : Int)), SV.v (vu64 (↑(limb b 1) : Int)), SV.v (vu64 (↑(limb b 2) : Int)), SV.v (vu64 (↑(limb b 3) : Int))] 41, HO.cells [SV.v (vu64 (0 : Int)), SV.v (vu64 (0 : Int)), SV.v (vu64 (0 : Int)), SV.v (vu64 (0 : Int))] 41, HO.cells [SV.v (vu64 (↑o0 : Int)), SV.v (vu64 (↑o1 : Int)), SV.v (vu64 (↑o2 : Int)), SV.v (vu64 (IntKind.wrap IntKind.u64 (IntKind.wrap IntKind.u64 ((↑(limb a 3) : Int) - (↑(limb b 3) : Int)) - (↑c3 : Int))))] 41]) else K [It.rnd [0, 0, 1, 0, 1, 1, 1] M, It.blk 0, It.at [1, 1, 1, 1]] (St.mk [(2, SV.p 0 0), (3, SV.p 1 0), (4, SV.p 2 0), (5, SV.p 3 0), (6, SV.v (vu64 (0 : Int))), (7, SV.v (vi64 (4 : Int)))] [HO.cells [SV.v (vu64 (↑(limb a 0) : Int)), SV.v (vu64 (↑(limb a 1) : Int)), SV.v (vu64 (↑(limb a 2) : Int)), SV.v (vu64 (↑(limb a 3) : Int))] 41, HO.cells [SV.v (vu64 (↑(limb b 0) : Int)), SV.v (vu64 (↑(limb b 1) : Int)), SV.v (vu64 (↑(limb b 2) : Int)), SV.v (vu64 (↑(limb b 3) : Int))] 41, HO.cells [SV.v (vu64 (0 : Int)), SV.v (vu64 (0 : Int)), SV.v (vu64 (0 : Int)), SV.v (vu64 (0 : Int))] 41, HO.cells [SV.v (vu64 (↑o0 : Int)), SV.v (vu64 (↑o1 : Int)), SV.v (vu64 (↑o2 : Int)), SV.v (vu64 (IntKind.wrap IntKind.u64 (IntKind.wrap IntKind.u64 ((↑(limb a 3) : Int) - (↑(limb b 3) : Int)) - (↑c3 : Int))))] 41])) := by kernel_rfl
theorem rm4 (o0 o1 o2 o3 c4 a b M : Nat) (K : List It → St → Prop) (R : SV → List HO → Prop) : W (xwp Try.prog X K31 [] 60 (fxOf Try.f88 [] [⟨[0,1,0,1,1,1], [2,3,4,5,6,7], []⟩]) [] (.at [0,0,1,0,1,1,1] :: .rnd [0,0,1,0,1,1,1] M :: [.blk 0, .at [1, 1, 1, 1]]) ⟨[(2, .p 0 0), (3, .p 1 0), (4, .p 2 0), (5, .p 3 0), (6, .v (.int .u64 (c4 : Nat))), (7, .v (.int .i64 4))], [.cells [.v (.int .u64 (limb a 0 : Nat)), .v (.int .u64 (limb a 1 : Nat)), .v (.int .u64 (limb a 2 : Nat)), .v (.int .u64 (limb a 3 : Nat))] 41, .cells [.v (.int .u64 (limb b 0 : Nat)), .v (.int .u64 (limb b 1 : Nat)), .v (.int .u64 (limb b 2 : Nat)), .v (.int .u64 (limb b 3 : Nat))] 41, .cells [.v (.int .u64 0), .v (.int .u64 0), .v (.int .u64 0), .v (.int .u64 0)] 41, .cells [.v (.int .u64 (o0 : Nat)), .v (.int .u64 (o1 : Nat)), .v (.int .u64 (o2 : Nat)), .v (.int .u64 (o3 : Nat))] 41]⟩ K R) = W ((∀ (M : Mem), 0 + 4 ≤ 4) ∧ R (SV.agg [SV.v (vu64 (↑o0 : Int)), SV.v (vu64 (↑o1 : Int)), SV.v (vu64 (↑o2 : Int)), SV.v (vu64 (↑o3 : Int))]) []) := by kernel_rfl
theorem rpS (a b : Nat) (K : List It → St → Prop) (R : SV → List HO → Prop) : W (xwp Try.prog X K31 [] 60 (fxOf Try.f89 [] [⟨[0,1,0,1,1,1], [2,3,4,5,6,7], []⟩]) [] [.at []] ⟨argsS 0 [eS a, eS b], []⟩ K R) = W ((∀ (M : Mem), 4 ≤ 4) ∧ K [It.at [0, 1, 0, 1, 1, 1], It.blk 0, It.at [1, 1, 1, 1]] (St.mk [(2, SV.p 0 0), (3, SV.p 1 0), (4, SV.p 2 0), (5, SV.p 3 0), (6, SV.v (vu64 (0 : Int))), (7, SV.v (vi64 (0 : Int)))] [HO.cells [SV.v (vu64 (↑(limb a 0) : Int)), SV.v (vu64 (↑(limb a 1) : Int)), SV.v (vu64 (↑(limb a 2) : Int)), SV.v (vu64 (↑(limb a 3) : Int))] 41, HO.cells [SV.v (vu64 (↑(limb b 0) : Int)), SV.v (vu64 (↑(limb b 1) : Int)), SV.v (vu64 (↑(limb b 2) : Int)), SV.v (vu64 (↑(limb b 3) : Int))] 41, HO.cells [SV.v (vu64 (0 : Int)), SV.v (vu64 (0 : Int)), SV.v (vu64 (0 : Int)), SV.v (vu64 (0 : Int))] 41, HO.cells [SV.v (vu64 (0 : Int)), SV.v (vu64 (0 : Int)), SV.v (vu64 (0 : Int)), SV.v (vu64 (0 : Int))] 41])) := by kernel_rfl
theorem rp0 (c0 a b M : Nat) (K : List It → St → Prop) (R : SV → List HO → Prop) : W (xwp Try.prog X K31 [] 60 (fxOf Try.f89 [] [⟨[0,1,0,1,1,1], [2,3,4,5,6,7], []⟩]) [] (.at [0,0,1,0,1,1,1] :: .rnd [0,0,1,0,1,1,1] M :: [.blk 0, .at [1, 1, 1, 1]]) ⟨[(2, .p 0 0), (3, .p 1 0), (4, .p 2 0), (5, .p 3 0), (6, .v (.int .u64 (c0 : Nat))), (7, .v (.int .i64 0))], [.cells [.v (.int .u64 (limb a 0 : Nat)), .v (.int .u64 (limb a 1 : Nat)), .v (.int .u64 (limb a 2 : Nat)), .v (.int .u64 (limb a 3 : Nat))] 41, .cells [.v (.int .u64 (limb b 0 : Nat)), .v (.int .u64 (limb b 1 : Nat)), .v (.int .u64 (limb b 2 : Nat)), .v (.int .u64 (limb b 3 : Nat))] 41, .cells [.v (.int .u64 0), .v (.int .u64 0), .v (.int .u64 0), .v (.int .u64 0)] 41, .cells [.v (.int .u64 0), .v (.int .u64 0), .v (.int .u64 0), .v (.int .u64 0)] 41]⟩ K R) = W ((∀ (M : Mem), (0 : Int) ≤ (0 : Int) ∧ (0 : Int) < (4 : Int)) ∧ (∀ (M : Mem), (0 : Int) ≤ (0 : Int) ∧ (0 : Int) < (4 : Int)) ∧ (∀ (M : Mem), (0 : Int) ≤ (0 : Int) ∧ (0 : Int) < (4 : Int)) ∧ (∀ (M : Mem), 0 + 1 ≤ 4) ∧ (∀ (M : Mem), (0 : Int) ≤ (0 : Int) ∧ (0 : Int) < (4 : Int)) ∧ bif decide (IntKind.wrap IntKind.u64 ((↑(limb a 0) : Int) + (↑(limb b 0) : Int)) < (↑(limb a 0) : Int)) then K [It.rnd [0, 0, 1, 0, 1, 1, 1] M, It.blk 0, It.at [1, 1, 1, 1]] (St.mk [(2, SV.p 0 0), (3, SV.p 1 0), (4, SV.p 2 0), (5, SV.p 3 0), (6, SV.v (vu64 (1 : Int))), (7, SV.v (vi64 (1 : Int)))] [HO.cells [SV.v (vu64 (↑(limb a 0) : Int)), SV.v (vu64 (↑(limb a 1) : Int)), SV.v (vu64 (↑(limb a 2) : Int)), SV.v (vu64 (↑(limb a 3) : Int))] 41, HO.cells [SV.v (vu64 (↑(limb b 0) : Int)), SV.v (vu64 (↑(limb b 1) : Int)), SV.v (vu64 (↑(limb b 2) : Int)), SV.v (vu64 (↑(limb b 3) : Int))] 41, HO.cells [SV.v (vu64 (0 : Int)), SV.v (vu64 (0 : Int)), SV.v (vu64 (0 : Int)), SV.v (vu64 (0 : Int))] 41, HO.cells [SV.v (vu64 (IntKind.wrap IntKind.u64 (IntKind.wrap IntKind.u64 ((↑(limb a 0) : Int) + (↑(limb b 0) : Int)) + (↑c0 : Int)))), SV.v (vu64 (0 : Int)), SV.v (vu64 (0 : Int)), SV.v (vu64 (0 : Int))] 41]) else (∀ (M : Mem), (0 : Int) ≤ (0 : Int) ∧ (0 : Int) < (4 : Int)) ∧ bif decide (IntKind.wrap IntKind.u64 (IntKind.wrap IntKind.u64 ((↑(limb a 0) : Int) + (↑(limb b 0) : Int)) + (↑c0 : Int)) < IntKind.wrap IntKind.u64 ((↑(limb a 0) : Int) + (↑(limb b 0) : Int))) then K [It.rnd [0, 0, 1, 0, 1, 1, 1] M, It.blk 0, It.at [1, 1, 1, 1]] (St.mk [(2, SV.p 0 0), (3, SV.p 1 0), (4, SV.p 2 0), (5, SV.p 3 0), (6, SV.v (vu64 (1 : Int))), (7, SV.v (vi64 (1 : Int)))] [HO.cells [SV.v (vu64 (↑(limb a 0) : Int)), SV.v (vu64 (↑(limb a 1) : Int)), SV.v (vu64 (↑(limb a 2) : Int)), SV.v (vu64 (↑(limb a 3) : Int))] 41, HO.cells [SV.v (vu64 (↑(limb b 0) : Int)), SV.v (vu64 (↑(limb b 1) : Int)), SV.v (vu64 (↑(limb b 2) : Int)), SV.v (vu64 (↑(limb b 3) : Int))] 41, HO.cells [SV.v (vu64 (0 : Int)), SV.v (vu64 (0 : Int)), SV.v (vu64 (0 : Int)), SV.v (vu64 (0 : Int))] 41, HO.cells [SV.v (vu64 (IntKind.wrap IntKind.u64 (IntKind.wrap IntKind.u64 ((↑(limb a 0) : Int) + (↑(limb b 0) : Int)) + (↑c0 : Int)))), SV.v (vu64 (0 : Int)), SV.v (vu64 (0 : Int)), SV.v (vu64 (0 : Int))] 41]) else K [It.rnd [0, 0, 1, 0, 1, 1, 1] M, It.blk 0, It.at [1, 1, 1, 1]] (St.mk [(2, SV.p 0 0), (3, SV.p 1 0), (4, SV.p 2 0), (5, SV.p 3 0), (6, SV.v (vu64 (0 : Int))), (7, SV.v (vi64 (1 : Int)))] [HO.cells [SV.v (vu64 (↑(limb a 0) : Int)), SV.v (vu64 (↑(limb a 1) : Int)), SV.v (vu64 (↑(limb a 2) : Int)), SV.v (vu64 (↑(limb a 3) : Int))] 41, HO.cells [SV.v (vu64 (↑(limb b 0) : Int)), SV.v (vu64 (↑(limb b 1) : Int)), SV.v (vu64 (↑(limb b 2) : Int)), SV.v (vu64 (↑(limb b 3) : Int))] 41, HO.cells [SV.v (vu64 (0 : Int)), SV.v (vu64 (0 : Int)), SV.v (vu64 (0 : Int)), SV.v (vu64 (0 : Int))] 41, HO.cells [SV.v (vu64 (IntKind.wrap IntKind.u64 (IntKind.wrap IntKind.u64 ((↑(limb a 0) : Int) + (↑(limb b 0) : Int)) + (↑c0 : Int)))), SV.v (vu64 (0 : Int)), SV.v (vu64 (0 : Int)), SV.v (vu64 (0 : Int))] 41])) := by kernel_rfl
theorem rp1 (o0 c1 a b M : Nat) (K : List It → St → Prop) (R : SV → List HO → Prop) : W (xwp Try.prog X K31 [] 60 (fxOf Try.f89 [] [⟨[0,1,0,1,1,1], [2,3,4,5,6,7], []⟩]) [] (.at [0,0,1,0,1,1,1] :: .rnd [0,0,1,0,1,1,1] M :: [.blk 0, .at [1, 1, 1, 1]]) ⟨[(2, .p 0 0), (3, .p 1 0), (4, .p 2 0), (5, .p 3 0), (6, .v (.int .u64 (c1 : Nat))), (7, .v (.int .i64 1))], [.cells [.v (.int .u64 (limb a 0 : Nat)), .v (.int .u64 (limb a 1 : Nat)), .v (.int .u64 (limb a 2 : Nat)), .v (.int .u64 (limb a 3 : Nat))] 41, .cells [.v (.int .u64 (limb b 0 : Nat)), .v (.int .u64 (limb b 1 : Nat)), .v (.int .u64 (limb b 2 : Nat)), .v (.int .u64 (limb b 3 : Nat))] 41, .cells [.v (.int .u64 0), .v (.int .u64 0), .v (.int .u64 0), .v (.int .u64 0)] 41, .cells [.v (.int .u64 (o0 : Nat)), .v (.int .u64 0), .v (.int .u64 0), .v (.int .u64 0)] 41]⟩ K R) = W ((∀ (M : Mem), (0 : Int) ≤ (1 : Int) ∧ (1 : Int) < (4 : Int)) ∧ (∀ (M : Mem), (0 : Int) ≤ (1 : Int) ∧ (1 : Int) < (4 : Int)) ∧ (∀ (M : Mem), (0 : Int) ≤ (1 : Int) ∧ (1 : Int) < (4 : Int)) ∧ (∀ (M : Mem), 1 + 1 ≤ 4) ∧ (∀ (M : Mem), (0 : Int) ≤ (1 : Int) ∧ (1 : Int) < (4 : Int)) ∧ bif decide (IntKind.wrap IntKind.u64 ((↑(limb a 1) : Int) + (↑(limb b 1) : Int)) < (↑(limb a 1) : Int)) then K [It.rnd [0, 0, 1, 0, 1, 1, 1] M, It.blk 0, It.at [1, 1, 1, 1]] (St.mk [(2, SV.p 0 0), (3, SV.p 1 0), (4, SV.p 2 0), (5, SV.p 3 0), (6, SV.v (vu64 (1 : Int))), (7, SV.v (vi64 (2 : Int)))] [HO.cells [SV.v (vu64 (↑(limb a 0) : Int)), SV.v (vu64 (↑(limb a 1) : Int)), SV.v (vu64 (↑(limb a 2) : Int)), SV.v (vu64 (↑(limb a 3) : Int))] 41, HO.cells [SV.v (vu64 (↑(limb b 0) : Int)), SV.v (vu64 (↑(limb b 1) : Int)), SV.v (vu64 (↑(limb b 2) : Int)), SV.v (vu64 (↑(limb b 3) : Int))] 41, HO.cells [SV.v (vu64 (0 : Int)), SV.v (vu64 (0 : Int)), SV.v (vu64 (0 : Int)), SV.v (vu64 (0 : Int))] 41, HO.cells [SV.v (vu64 (↑o0 : Int)), SV.v (vu64 (IntKind.wrap IntKind.u64 (IntKind.wrap IntKind.u64 ((↑(limb a 1) : Int) + (↑(limb b 1) : Int)) + (↑c1 : Int)))), SV.v (vu64 (0 : Int)), SV.v (vu64 (0 : Int))] 41]) else (∀ (M : Mem), (0 : Int) ≤ (1 : Int) ∧ (1 : Int) < (4 : Int)) ∧ bif decide (IntKind.wrap IntKind.u64 (IntKind.wrap IntKind.u64 ((↑(limb a 1) : Int) + (↑(limb b 1) : Int)) + (↑c1 : Int)) < IntKind.wrap IntKind.u64 ((↑(limb a 1) : Int) + (↑(limb b 1) : Int))) then K [It.rnd [0, 0, 1, 0, 1, 1, 1] M, It.blk 0, It.at [1, 1, 1, 1]] (St.mk [(2, SV.p 0 0), (3, SV.p 1 0), (4, SV.p 2 0), (5, SV.p 3 0), (6, SV.v (vu64 (1 : Int))), (7, SV.v (vi64 (2 : Int)))] [HO.cells [SV.v (vu64 (↑(limb a 0) : Int)), SV.v (vu64 (↑(limb a 1) : Int)), SV.v (vu64 (↑(limb a 2) : Int)), SV.v (vu64 (↑(limb a 3) : Int))] 41, HO.cells [SV.v (vu64 (↑(limb b 0) : Int)), SV.v (vu64 (↑(limb b 1) : Int)), SV.v (vu64 (↑(limb b 2) : Int)), SV.v (vu64 (↑(limb b 3) : Int))] 41, HO.cells [SV.v (vu64 (0 : Int)), SV.v (vu64 (0 : Int)), SV.v (vu64 (0 : Int)), SV.v (vu64 (0 : Int))] 41, HO.cells [SV.v (vu64 (↑o0 : Int)), SV.v (vu64 (IntKind.wrap IntKind.u64 (IntKind.wrap IntKind.u64 ((↑(limb a 1) : Int) + (↑(limb b 1) : Int)) + (↑c1 : Int)))), SV.v (vu64 (0 : Int)), SV.v (vu64 (0 : Int))] 41]) else K [It.rnd [0, 0, 1, 0, 1, 1, 1] M, It.blk 0, It.at [1, 1, 1, 1]] (St.mk [(2, SV.p 0 0), (3, SV.p 1 0), (4, SV.p 2 0), (5, SV.p 3 0), (6, SV.v (vu64 (0 : Int))), (7, SV.v (vi64 (2 : Int)))] [HO.cells [SV.v (vu64 (↑(limb a 0) : Int)), SV.v (vu64 (↑(limb a 1) : Int)), SV.v (vu64 (↑(limb a 2) : Int)), SV.v (vu64 (↑(limb a 3) : Int))] 41, HO.cells [SV.v (vu64 (↑(limb b 0) : Int)), SV.v (vu64 (↑(limb b 1) : Int)), SV.v (vu64 (↑(limb b 2) : Int)), SV.v (vu64 (↑(limb b 3) : Int))] 41, HO.cells [SV.v (vu64 (0 : Int)), SV.v (vu64 (0 : Int)), SV.v (vu64 (0 : Int)), SV.v (vu64 (0 : Int))] 41, HO.cells [SV.v (vu64 (↑o0 : Int)), SV.v (vu64 (IntKind.wrap IntKind.u64 (IntKind.wrap IntKind.u64 ((↑(limb a 1) : Int) + (↑(limb b 1) : Int)) + (↑c1 : Int)))), SV.v (vu64 (0 : Int)), SV.v (vu64 (0 : Int))] 41])) := by kernel_rfl
theorem rp2 (o0 o1 c2 a b M : Nat) (K : List It → St → Prop) (R : SV → List HO → Prop) : W (xwp Try.prog X K31 [] 60 (fxOf Try.f89 [] [⟨[0,1,0,1,1,1], [2,3,4,5,6,7], []⟩]) [] (.at [0,0,1,0,1,1,1] :: .rnd [0,0,1,0,1,1,1] M :: [.blk 0, .at [1, 1, 1, 1]]) ⟨[(2, .p 0 0), (3, .p 1 0), (4, .p 2 0), (5, .p 3 0), (6, .v (.int .u64 (c2 : Nat))), (7, .v (.int .i64 2))], [.cells [.v (.int .u64 (limb a 0 : Nat)), .v (.int .u64 (limb a 1 : Nat)), .v (.int .u64 (limb a 2 : Nat)), .v (.int .u64 (limb a 3 : Nat))] 41, .cells [.v (.int .u64 (limb b 0 : Nat)), .v (.int .u64 (limb b 1 : Nat)), .v (.int .u64 (limb b 2 : Nat)), .v (.int .u64 (limb b 3 : Nat))] 41, .cells [.v (.int .u64 0), .v (.int .u64 0), .v (.int .u64 0), .v (.int .u64 0)] 41, .cells [.v (.int .u64 (o0 : Nat)), .v (.int .u64 (o1 : Nat)), .v (.int .u64 0), .v (.int .u64 0)] 41]⟩ K R) = W ((∀ (M : Mem), (0 : Int) ≤ (2 : Int) ∧ (2 : Int) < (4 : Int)) ∧ (∀ (M : Mem), (0 : Int) ≤ (2 : Int) ∧ (2 : Int) < (4 : Int)) ∧ (∀ (M : Mem), (0 : Int) ≤ (2 : Int) ∧ (2 : Int) < (4 : Int)) ∧ (∀ (M : Mem), 2 + 1 ≤ 4) ∧ (∀ (M : Mem), (0 : Int) ≤ (2 : Int) ∧ (2 : Int) < (4 : Int)) ∧ bif decide (IntKind.wrap IntKind.u64 ((↑(limb a 2) : Int) + (↑(limb b 2) : Int)) < (↑(limb a 2) : Int)) then K [It.rnd [0, 0, 1, 0, 1, 1, 1] M, It.blk 0, It.at [1, 1, 1, 1]] (St.mk [(2, SV.p 0 0), (3, SV.p 1 0), (4, SV.p 2 0), (5, SV.p 3 0), (6, SV.v (vu64 (1 : Int))), (7, SV.v (vi64 (3 : Int)))] [HO.cells [SV.v (vu64 (↑(limb a 0) : Int)), SV.v (vu64 (↑(limb a 1) : Int)), SV.v (vu64 (↑(limb a 2) : Int)), SV.v (vu64 (↑(limb a 3) : Int))] 41, HO.cells [SV.v (vu64 (↑(limb b 0) : Int)), SV.v (vu64 (↑(limb b 1) : Int)), SV.v (vu64 (↑(limb b 2) : Int)), SV.v (vu64 (↑(limb b 3) : Int))] 41, HO.cells [SV.v (vu64 (0 : Int)), SV.v (vu64 (0 : Int)), SV.v (vu64 (0 : Int)), SV.v (vu64 (0 : Int))] 41, HO.cells [SV.v (vu64 (↑o0 : Int)), SV.v (vu64 (↑o1 : Int)), SV.v (vu64 (IntKind.wrap IntKind.u64 (IntKind.wrap IntKind.u64 ((↑(limb a 2) : Int) + (↑(limb b 2) : Int)) + (↑c2 : Int)))), SV.v (vu64 (0 : Int))] 41]) else (∀ (M : Mem), (0 : Int) ≤ (2 : Int) ∧ (2 : Int) < (4 : Int)) ∧ bif decide (IntKind.wrap IntKind.u64 (IntKind.wrap IntKind.u64 ((↑(limb a 2) : Int) + (↑(limb b 2) : Int)) + (↑c2 : Int)) < IntKind.wrap IntKind.u64 ((↑(limb a 2) : Int) + (↑(limb b 2) : Int))) then K [It.rnd [0, 0, 1, 0, 1, 1, 1] M, It.blk 0, It.at [1, 1, 1, 1]] (St.mk [(2, SV.p 0 0), (3, SV.p 1 0), (4, SV.p 2 0), (5, SV.p 3 0), (6, SV.v (vu64 (1 : Int))), (7, SV.v (vi64 (3 : Int)))] [HO.cells [SV.v (vu64 (↑(limb a 0) : Int)), SV.v (vu64 (↑(limb a 1) : Int)), SV.v (vu64 (↑(limb a 2) : Int)), SV.v (vu64 (↑(limb a 3) : Int))] 41, HO.cells [SV.v (vu64 (↑(limb b 0) : Int)), SV.v (vu64 (↑(limb b 1) : Int)), SV.v (vu64 (↑(limb b 2) : Int)), SV.v (vu64 (↑(limb b 3) : Int))] 41, HO.cells [SV.v (vu64 (0 : Int)), SV.v (vu64 (0 : Int)), SV.v (vu64 (0 : Int)), SV.v (vu64 (0 : Int))] 41, HO.cells [SV.v (vu64 (↑o0 : Int)), SV.v (vu64 (↑o1 : Int)), SV.v (vu64 (IntKind.wrap IntKind.u64 (IntKind.wrap IntKind.u64 ((↑(limb a 2) : Int) + (↑(limb b 2) : Int)) + (↑c2 : Int)))), SV.v (vu64 (0 : Int))] 41]) else K [It.rnd [0, 0, 1, 0, 1, 1, 1] M, It.blk 0, It.at [1, 1, 1, 1]] (St.mk [(2, SV.p 0 0), (3, SV.p 1 0), (4, SV.p 2 0), (5, SV.p 3 0), (6, SV.v (vu64 (0 : Int))), (7, SV.v (vi64 (3 : Int)))] [HO.cells [SV.v (vu64 (↑(limb a 0) : Int)), SV.v (vu64 (↑(limb a 1) : Int)), SV.v (vu64 (↑(limb a 2) : Int)), SV.v (vu64 (↑(limb a 3) : Int))] 41, HO.cells [SV.v (vu64 (↑(limb b 0) : Int)), SV.v (vu64 (↑(limb b 1) : Int)), SV.v (vu64 (↑(limb b 2) : Int)), SV.v (vu64 (↑(limb b 3) : Int))] 41, HO.cells [SV.v (vu64 (0 : Int)), SV.v (vu64 (0 : Int)), SV.v (vu64 (0 : Int)), SV.v (vu64 (0 : Int))] 41, HO.cells [SV.v (vu64 (↑o0 : Int)), SV.v (vu64 (↑o1 : Int)), SV.v (vu64 (IntKind.wrap IntKind.u64 (IntKind.wrap IntKind.u64 ((↑(limb a 2) : Int) + (↑(limb b 2) : Int)) + (↑c2 : Int)))), SV.v (vu64 (0 : Int))] 41])) := by kernel_rfl
theorem rp3 (o0 o1 o2 c3 a b M : Nat) (K : List It → St → Prop) (R : SV → List HO → Prop) : W (xwp Try.prog X K31 [] 60 (fxOf Try.f89 [] [⟨[0,1,0,1,1,1], [2,3,4,5,6,7], []⟩]) [] (.at [0,0,1,0,1,1,1] :: .rnd [0,0,1,0,1,1,1] M :: [.blk 0, .at [1, 1, 1, 1]]) ⟨[(2, .p 0 0), (3, .p 1 0), (4, .p 2 0), (5, .p 3 0), (6, .v (.int .u64 (c3 : Nat))), (7, .v (.int .i64 3))], [.cells [.v (.int .u64 (limb a 0 : Nat)), .v (.int .u64 (limb a 1 : Nat)), .v (.int .u64 (limb a 2 : Nat)), .v (.int .u64 (limb a 3 : Nat))] 41, .cells [.v (.int .u64 (limb b 0 : Nat)), .v (.int .u64 (limb b 1 : Nat)), .v (.int .u64 (limb b 2 : Nat)), .v (.int .u64 (limb b 3 : Nat))] 41, .cells [.v (.int .u64 0), .v (.int .u64 0), .v (.int .u64 0), .v (.int .u64 0)] 41, .cells [.v (.int .u64 (o0 : Nat)), .v (.int .u64 (o1 : Nat)), .v (.int .u64 (o2 : Nat)), .v (.int .u64 0)] 41]⟩ K R) = W ((∀ (M : Mem), (0 : Int) ≤ (3 : Int) ∧ (3 : Int) < (4 : Int)) ∧ (∀ (M : Mem), (0 : Int) ≤ (3 : Int) ∧ (3 : Int) < (4 : Int)) ∧ (∀ (M : Mem), (0 : Int) ≤ (3 : Int) ∧ (3 : Int) < (4 : Int)) ∧ (∀ (M : Mem), 3 + 1 ≤ 4) ∧ (∀ (M : Mem), (0 : Int) ≤ (3 : Int) ∧ (3 : Int) < (4 : Int)) ∧ bif decide (IntKind.wrap IntKind.u64 ((↑(limb a 3) : Int) + (↑(limb b 3) : Int)) < (↑(limb a 3) : Int)) then K [It.rnd [0, 0, 1, 0, 1, 1, 1] M, It.blk 0, It.at [1, 1, 1, 1]] (St.mk [(2, SV.p 0 0), (3, SV.p 1 0), (4, SV.p 2 0), (5, SV.p 3 0), (6, SV.v (vu64 (1 : Int))), (7, SV.v (vi64 (4 : Int)))] [HO.cells [SV.v (vu64 (↑(limb a 0) : Int)), SV.v (vu64 (↑(limb a 1) : Int)), SV.v (vu64 (↑(limb a 2) : Int)), SV.v (vu64 (↑(limb a 3) : Int))] 41, HO.cells [SV.v (vu64 (↑(limb b 0) : Int)), SV.v (vu64 (↑(limb b 1) : Int)), SV.v (vu64 (↑(limb b 2) : Int)), SV.v (vu64 (↑(limb b 3) : Int))] 41, HO.cells [SV.v (vu64 (0 : Int)), SV.v (vu64 (0 : Int)), SV.v (vu64 (0 : Int)), SV.v (vu64 (0 : Int))] 41, HO.cells [SV.v (vu64 (↑o0 : Int)), SV.v (vu64 (↑o1 : Int)), SV.v (vu64 (↑o2 : Int)), SV.v (vu64 (IntKind.wrap IntKind.u64 (IntKind.wrap IntKind.u64 ((↑(limb a 3) : Int) + (↑(limb b 3) : Int)) + (↑c3 : Int))))] 41]) else (∀ (M : Mem), (0 : Int) ≤ (3 : Int) ∧ (3 : Int) < (4 : Int)) ∧ bif decide (IntKind.wrap IntKind.u64 (IntKind.wrap IntKind.u64 ((↑(limb a 3) : Int) + (↑(limb b 3) : Int)) + (↑c3 : Int)) < IntKind.wrap IntKind.u64 ((↑(limb a 3) : Int) + (↑(limb b 3) : Int))) then K [It.rnd [0, 0, 1, 0, 1, 1, 1] M, It.blk 0, It.at [1, 1, 1, 1]] (St.mk [(2, SV.p 0 0), (3, SV.p 1 0), (4, SV.p 2 0), (5, SV.p 3 0), (6, SV.v (vu64 (1 : Int))), (7, SV.v (vi64 (4 : Int)))] [HO.cells [SV.v (vu64 (↑(limb a 0) : Int)), SV.v (vu64 (↑(limb a 1) : Int)), SV.v (vu64 (↑(limb a 2) : Int)), SV.v (vu64 (↑(limb a 3) : Int))] 41, HO.cells [SV.v (vu64 (↑(limb b 0) : Int)), SV.v (vu64 (↑(limb b 1) : Int)), SV.v (vu64 (↑(limb b 2) : Int)), SV.v (vu64 (↑(limb b 3) : Int))] 41, HO.cells [SV.v (vu64 (0 : Int)), SV.v (vu64 (0 : Int)), SV.v (vu64 (0 : Int)), SV.v (vu64 (0 : Int))] 41, HO.cells [SV.v (vu64 (↑o0 : Int)), SV.v (vu64 (↑o1 : Int)), SV.v (vu64 (↑o2 : Int)), SV.v (vu64 (IntKind.wrap IntKind.u64 (IntKind.wrap IntKind.u64 ((↑(limb a 3) : Int) + (↑(limb b 3) : Int)) + (↑c3 : Int))))] 41]) else K [It.rnd [0, 0, 1, 0, 1, 1, 1] M, It.blk 0, It.at [1, 1, 1, 1]] (St.mk [(2, SV.p 0 0), (3, SV.p 1 0), (4, SV.p 2 0), (5, SV.p 3 0), (6, SV.v (vu64 (0 : Int))), (7, SV.v (vi64 (4 : Int)))] [HO.cells [SV.v (vu64 (↑(limb a 0) : Int)), SV.v (vu64 (↑(limb a 1) : Int)), SV.v (vu64 (↑(limb a 2) : Int)), SV.v (vu64 (↑(limb a 3) : Int))] 41, HO.cells [SV.v (vu64 (↑(limb b 0) : Int)), SV.v (vu64 (↑(limb b 1) : Int)), SV.v (vu64 (↑(limb b 2) : Int)), SV.v (vu64 (↑(limb b 3) : Int))] 41, HO.cells [SV.v (vu64 (0 : Int)), SV.v (vu64 (0 : Int)), SV.v (vu64 (0 : Int)), SV.v (vu64 (0 : Int))] 41, HO.cells [SV.v (vu64 (↑o0 : Int)), SV.v (vu64 (↑o1 : Int)), SV.v (vu64 (↑o2 : Int)), SV.v (vu64 (IntKind.wrap IntKind.u64 (IntKind.wrap IntKind.u64 ((↑(limb a 3) : Int) + (↑(limb b 3) : Int)) + (↑c3 : Int))))] 41])) := by kernel_rfl
theorem rp4 (o0 o1 o2 o3 c4 a b M : Nat) (K : List It → St → Prop) (R : SV → List HO → Prop) : W (xwp Try.prog X K31 [] 60 (fxOf Try.f89 [] [⟨[0,1,0,1,1,1], [2,3,4,5,6,7], []⟩]) [] (.at [0,0,1,0,1,1,1] :: .rnd [0,0,1,0,1,1,1] M :: [.blk 0, .at [1, 1, 1, 1]]) ⟨[(2, .p 0 0), (3, .p 1 0), (4, .p 2 0), (5, .p 3 0), (6, .v (.int .u64 (c4 : Nat))), (7, .v (.int .i64 4))], [.cells [.v (.int .u64 (limb a 0 : Nat)), .v (.int .u64 (limb a 1 : Nat)), .v (.int .u64 (limb a 2 : Nat)), .v (.int .u64 (limb a 3 : Nat))] 41, .cells [.v (.int .u64 (limb b 0 : Nat)), .v (.int .u64 (limb b 1 : Nat)), .v (.int .u64 (limb b 2 : Nat)), .v (.int .u64 (limb b 3 : Nat))] 41, .cells [.v (.int .u64 0), .v (.int .u64 0), .v (.int .u64 0), .v (.int .u64 0)] 41, .cells [.v (.int .u64 (o0 : Nat)), .v (.int .u64 (o1 : Nat)), .v (.int .u64 (o2 : Nat)), .v (.int .u64 (o3 : Nat))] 41]⟩ K R) = W ((∀ (M : Mem), 0 + 4 ≤ 4) ∧ R (SV.agg [SV.v (vu64 (↑o0 : Int)), SV.v (vu64 (↑o1 : Int)), SV.v (vu64 (↑o2 : Int)), SV.v (vu64 (↑o3 : Int))]) []) := by kernel_rfl
theorem bRb : Try.f87.body.isSome = true := by kernel_rfl
theorem nRb (a b : Nat) : Nat.ble [eS a, eS b].length Try.f87.ntmps = true := by kernel_rfl
theorem rb_ok (a b : Nat) (ha : a < top) (hb : b < top) (Q : SV → List HO → Prop) (hq : Q (.v (.bool (decide (a < b)))) []) : FnOk Try.prog 87 [eS a, eS b] [] Q := by
  have na := nv_self a ha
  have nb := nv_self b hb
  simp only [nv] at na nb
  have a0 := limb_lt a 0
  have a1 := limb_lt a 1
  have a2 := limb_lt a 2
  have b0 := limb_lt b 0
  have b1 := limb_lt b 1
  have b2 := limb_lt b 2
  refine fn_of_ok Try.func87 bRb ?_ ?_
  · exact nRb a b
  refine run_sound hm 60 ((rbS a b _ _).mpr ⟨?_⟩)
  simp only [cond_not, cond_beq, forall_const]
  generalize limb a 0 = x0 at *
  generalize limb a 1 = x1 at *
  generalize limb a 2 = x2 at *
  generalize limb a 3 = x3 at *
  generalize limb b 0 = y0 at *
  generalize limb b 1 = y1 at *
  generalize limb b 2 = y2 at *
  generalize limb b 3 = y3 at *
  have fin : ∀ x y : Nat, ((x < y) ↔ (a < b)) → Q (.v (.bool (decide ((x : Int) < (y : Int))))) [] := fun x y h => by
    rw [show decide ((x : Int) < (y : Int)) = decide (a < b) by rw [decide_eq_decide]; omega]
    exact hq
  refine And.intro (by omega) (And.intro (by omega) (ite_intro (fun h3 => ?_) (fun h3 => ?_)))
  · refine And.intro (by omega) (And.intro (by omega) (ite_intro (fun h2 => ?_) (fun h2 => ?_)))
    · refine And.intro (by omega) (And.intro (by omega) (ite_intro (fun h1 => ?_) (fun h1 => ?_)))
      · refine And.intro (by omega) (And.intro (by omega) (ite_intro (fun h0 => ?_) (fun h0 => ?_)))
        · rw [decide_eq_false (by omega)] at hq; exact hq
        · exact And.intro (by omega) (And.intro (by omega) (fin x0 y0 (by omega)))
      · exact And.intro (by omega) (And.intro (by omega) (fin x1 y1 (by omega)))
    · exact And.intro (by omega) (And.intro (by omega) (fin x2 y2 (by omega)))
  · exact And.intro (by omega) (And.intro (by omega) (fin x3 y3 (by omega)))
noncomputable def gRb : List SV → List HO → Option ((SV → List HO → Prop) → Prop)
  | [.agg [.v (.int .u64 a0), .v (.int .u64 a1), .v (.int .u64 a2), .v (.int .u64 a3)], .agg [.v (.int .u64 b0), .v (.int .u64 b1), .v (.int .u64 b2), .v (.int .u64 b3)]], [] => some fun Q => c2C [a0, a1, a2, a3] [b0, b1, b2, b3] fun a b => Q (.v (.bool (decide (a < b)))) []
  | _, _ => none
theorem gRb_ok (args : List SV) (h : List HO) (tr : (SV → List HO → Prop) → Prop) (Q : SV → List HO → Prop) (hc : gRb args h = some tr) (ht : tr Q) : FnOk Try.prog 87 args h Q := by
  unfold gRb at hc
  split at hc
  · rename_i a0 a1 a2 a3 b0 b1 b2 b3
    simp only [Option.some.injEq] at hc
    subst hc
    obtain ⟨a, b, e1, e2, ha, hb, hq⟩ := ht.h
    simp only [List.cons.injEq, and_true] at e1 e2
    obtain ⟨rfl, rfl, rfl, rfl⟩ := e1
    obtain ⟨rfl, rfl, rfl, rfl⟩ := e2
    exact rb_ok a b ha hb Q hq
  · cases hc
theorem rm_4 (o0 o1 o2 o3 c4 a b : Nat) (Q : SV → List HO → Prop) (hq : Q (.agg [.v (.int .u64 (o0 : Nat)), .v (.int .u64 (o1 : Nat)), .v (.int .u64 (o2 : Nat)), .v (.int .u64 (o3 : Nat))]) []) : FOk Try.prog Try.f88 Q (.rnd [0,0,1,0,1,1,1] 1 :: [.blk 0, .at [1, 1, 1, 1]]) ⟨[(2, .p 0 0), (3, .p 1 0), (4, .p 2 0), (5, .p 3 0), (6, .v (.int .u64 (c4 : Nat))), (7, .v (.int .i64 4))], [.cells [.v (.int .u64 (limb a 0 : Nat)), .v (.int .u64 (limb a 1 : Nat)), .v (.int .u64 (limb a 2 : Nat)), .v (.int .u64 (limb a 3 : Nat))] 41, .cells [.v (.int .u64 (limb b 0 : Nat)), .v (.int .u64 (limb b 1 : Nat)), .v (.int .u64 (limb b 2 : Nat)), .v (.int .u64 (limb b 3 : Nat))] 41, .cells [.v (.int .u64 0), .v (.int .u64 0), .v (.int .u64 0), .v (.int .u64 0)] 41, .cells [.v (.int .u64 (o0 : Nat)), .v (.int .u64 (o1 : Nat)), .v (.int .u64 (o2 : Nat)), .v (.int .u64 (o3 : Nat))] 41]⟩ := by
  refine FOk.rnd (run_sound hm 60 ((rm4 o0 o1 o2 o3 c4 a b 0 _ _).mpr ⟨?_⟩))
  exact And.intro (fun _ => by omega) hq
theorem rm_3 (o0 o1 o2 c3 a b : Nat) (hc : c3 ≤ 1) (Q : SV → List HO → Prop) (hq : ∀ o3 c4 : Nat, limb a 3 + 18446744073709551616 * c4 = o3 + limb b 3 + c3 → o3 < 18446744073709551616 → c4 ≤ 1 → Q (.agg [.v (.int .u64 (o0 : Nat)), .v (.int .u64 (o1 : Nat)), .v (.int .u64 (o2 : Nat)), .v (.int .u64 (o3 : Nat))]) []) : FOk Try.prog Try.f88 Q (.rnd [0,0,1,0,1,1,1] 2 :: [.blk 0, .at [1, 1, 1, 1]]) ⟨[(2, .p 0 0), (3, .p 1 0), (4, .p 2 0), (5, .p 3 0), (6, .v (.int .u64 (c3 : Nat))), (7, .v (.int .i64 3))], [.cells [.v (.int .u64 (limb a 0 : Nat)), .v (.int .u64 (limb a 1 : Nat)), .v (.int .u64 (limb a 2 : Nat)), .v (.int .u64 (limb a 3 : Nat))] 41, .cells [.v (.int .u64 (limb b 0 : Nat)), .v (.int .u64 (limb b 1 : Nat)), .v (.int .u64 (limb b 2 : Nat)), .v (.int .u64 (limb b 3 : Nat))] 41, .cells [.v (.int .u64 0), .v (.int .u64 0), .v (.int .u64 0), .v (.int .u64 0)] 41, .cells [.v (.int .u64 (o0 : Nat)), .v (.int .u64 (o1 : Nat)), .v (.int .u64 (o2 : Nat)), .v (.int .u64 0)] 41]⟩ := by
  obtain ⟨o3, ol, e, e1, e2, e3⟩ := mst (limb a 3) (limb b 3) c3 (limb_lt a 3) (limb_lt b 3) hc
  have next : ∀ c4 : Nat, c4 ≤ 1 → limb a 3 + 18446744073709551616 * c4 = o3 + limb b 3 + c3 → FOk Try.prog Try.f88 Q (.rnd [0,0,1,0,1,1,1] 1 :: [.blk 0, .at [1, 1, 1, 1]]) ⟨[(2, .p 0 0), (3, .p 1 0), (4, .p 2 0), (5, .p 3 0), (6, .v (.int .u64 (c4 : Nat))), (7, .v (.int .i64 4))], [.cells [.v (.int .u64 (limb a 0 : Nat)), .v (.int .u64 (limb a 1 : Nat)), .v (.int .u64 (limb a 2 : Nat)), .v (.int .u64 (limb a 3 : Nat))] 41, .cells [.v (.int .u64 (limb b 0 : Nat)), .v (.int .u64 (limb b 1 : Nat)), .v (.int .u64 (limb b 2 : Nat)), .v (.int .u64 (limb b 3 : Nat))] 41, .cells [.v (.int .u64 0), .v (.int .u64 0), .v (.int .u64 0), .v (.int .u64 0)] 41, .cells [.v (.int .u64 (o0 : Nat)), .v (.int .u64 (o1 : Nat)), .v (.int .u64 (o2 : Nat)), .v (.int .u64 (o3 : Nat))] 41]⟩ := fun c4 hc1 hs => by
    exact rm_4 o0 o1 o2 o3 c4 a b Q (hq o3 c4 hs ol hc1)
  refine FOk.rnd (run_sound hm 60 ((rm3 o0 o1 o2 c3 a b 1 _ _).mpr ⟨?_⟩))
  simp only [cond_dec, e]
  refine And.intro (fun _ => by omega) (And.intro (fun _ => by omega) (And.intro (fun _ => by omega) (And.intro (fun _ => by omega) (And.intro (fun _ => by omega) (And.intro (fun _ => by omega) (ite_intro (fun h => next 1 (by omega) (e1 h)) (fun h => ite_intro (fun h2 => next 1 (by omega) (e2 h h2)) (fun h2 => next 0 (by omega) (e3 h h2)))))))))
theorem rm_2 (o0 o1 c2 a b : Nat) (hc : c2 ≤ 1) (Q : SV → List HO → Prop) (hq : ∀ o2 o3 c3 c4 : Nat, limb a 2 + 18446744073709551616 * c3 = o2 + limb b 2 + c2 → o2 < 18446744073709551616 → c3 ≤ 1 → limb a 3 + 18446744073709551616 * c4 = o3 + limb b 3 + c3 → o3 < 18446744073709551616 → c4 ≤ 1 → Q (.agg [.v (.int .u64 (o0 : Nat)), .v (.int .u64 (o1 : Nat)), .v (.int .u64 (o2 : Nat)), .v (.int .u64 (o3 : Nat))]) []) : FOk Try.prog Try.f88 Q (.rnd [0,0,1,0,1,1,1] 3 :: [.blk 0, .at [1, 1, 1, 1]]) ⟨[(2, .p 0 0), (3, .p 1 0), (4, .p 2 0), (5, .p 3 0), (6, .v (.int .u64 (c2 : Nat))), (7, .v (.int .i64 2))], [.cells [.v (.int .u64 (limb a 0 : Nat)), .v (.int .u64 (limb a 1 : Nat)), .v (.int .u64 (limb a 2 : Nat)), .v (.int .u64 (limb a 3 : Nat))] 41, .cells [.v (.int .u64 (limb b 0 : Nat)), .v (.int .u64 (limb b 1 : Nat)), .v (.int .u64 (limb b 2 : Nat)), .v (.int .u64 (limb b 3 : Nat))] 41, .cells [.v (.int .u64 0), .v (.int .u64 0), .v (.int .u64 0), .v (.int .u64 0)] 41, .cells [.v (.int .u64 (o0 : Nat)), .v (.int .u64 (o1 : Nat)), .v (.int .u64 0), .v (.int .u64 0)] 41]⟩ := by
  obtain ⟨o2, ol, e, e1, e2, e3⟩ := mst (limb a 2) (limb b 2) c2 (limb_lt a 2) (limb_lt b 2) hc
  have next : ∀ c3 : Nat, c3 ≤ 1 → limb a 2 + 18446744073709551616 * c3 = o2 + limb b 2 + c2 → FOk Try.prog Try.f88 Q (.rnd [0,0,1,0,1,1,1] 2 :: [.blk 0, .at [1, 1, 1, 1]]) ⟨[(2, .p 0 0), (3, .p 1 0), (4, .p 2 0), (5, .p 3 0), (6, .v (.int .u64 (c3 : Nat))), (7, .v (.int .i64 3))], [.cells [.v (.int .u64 (limb a 0 : Nat)), .v (.int .u64 (limb a 1 : Nat)), .v (.int .u64 (limb a 2 : Nat)), .v (.int .u64 (limb a 3 : Nat))] 41, .cells [.v (.int .u64 (limb b 0 : Nat)), .v (.int .u64 (limb b 1 : Nat)), .v (.int .u64 (limb b 2 : Nat)), .v (.int .u64 (limb b 3 : Nat))] 41, .cells [.v (.int .u64 0), .v (.int .u64 0), .v (.int .u64 0), .v (.int .u64 0)] 41, .cells [.v (.int .u64 (o0 : Nat)), .v (.int .u64 (o1 : Nat)), .v (.int .u64 (o2 : Nat)), .v (.int .u64 0)] 41]⟩ := fun c3 hc1 hs => by
    refine rm_3 o0 o1 o2 c3 a b hc1 Q ?_
    intro o3 c4 k3 l3 m3
    exact hq o2 o3 c3 c4 hs ol hc1 k3 l3 m3
  refine FOk.rnd (run_sound hm 60 ((rm2 o0 o1 c2 a b 2 _ _).mpr ⟨?_⟩))
  simp only [cond_dec, e]
  refine And.intro (fun _ => by omega) (And.intro (fun _ => by omega) (And.intro (fun _ => by omega) (And.intro (fun _ => by omega) (And.intro (fun _ => by omega) (And.intro (fun _ => by omega) (ite_intro (fun h => next 1 (by omega) (e1 h)) (fun h => ite_intro (fun h2 => next 1 (by omega) (e2 h h2)) (fun h2 => next 0 (by omega) (e3 h h2)))))))))
theorem rm_1 (o0 c1 a b : Nat) (hc : c1 ≤ 1) (Q : SV → List HO → Prop) (hq : ∀ o1 o2 o3 c2 c3 c4 : Nat, limb a 1 + 18446744073709551616 * c2 = o1 + limb b 1 + c1 → o1 < 18446744073709551616 → c2 ≤ 1 → limb a 2 + 18446744073709551616 * c3 = o2 + limb b 2 + c2 → o2 < 18446744073709551616 → c3 ≤ 1 → limb a 3 + 18446744073709551616 * c4 = o3 + limb b 3 + c3 → o3 < 18446744073709551616 → c4 ≤ 1 → Q (.agg [.v (.int .u64 (o0 : Nat)), .v (.int .u64 (o1 : Nat)), .v (.int .u64 (o2 : Nat)), .v (.int .u64 (o3 : Nat))]) []) : FOk Try.prog Try.f88 Q (.rnd [0,0,1,0,1,1,1] 4 :: [.blk 0, .at [1, 1, 1, 1]]) ⟨[(2, .p 0 0), (3, .p 1 0), (4, .p 2 0), (5, .p 3 0), (6, .v (.int .u64 (c1 : Nat))), (7, .v (.int .i64 1))], [.cells [.v (.int .u64 (limb a 0 : Nat)), .v (.int .u64 (limb a 1 : Nat)), .v (.int .u64 (limb a 2 : Nat)), .v (.int .u64 (limb a 3 : Nat))] 41, .cells [.v (.int .u64 (limb b 0 : Nat)), .v (.int .u64 (limb b 1 : Nat)), .v (.int .u64 (limb b 2 : Nat)), .v (.int .u64 (limb b 3 : Nat))] 41, .cells [.v (.int .u64 0), .v (.int .u64 0), .v (.int .u64 0), .v (.int .u64 0)] 41, .cells [.v (.int .u64 (o0 : Nat)), .v (.int .u64 0), .v (.int .u64 0), .v (.int .u64 0)] 41]⟩ := by
  obtain ⟨o1, ol, e, e1, e2, e3⟩ := mst (limb a 1) (limb b 1) c1 (limb_lt a 1) (limb_lt b 1) hc
  have next : ∀ c2 : Nat, c2 ≤ 1 → limb a 1 + 18446744073709551616 * c2 = o1 + limb b 1 + c1 → FOk Try.prog Try.f88 Q (.rnd [0,0,1,0,1,1,1] 3 :: [.blk 0, .at [1, 1, 1, 1]]) ⟨[(2, .p 0 0), (3, .p 1 0), (4, .p 2 0), (5, .p 3 0), (6, .v (.int .u64 (c2 : Nat))), (7, .v (.int .i64 2))], [.cells [.v (.int .u64 (limb a 0 : Nat)), .v (.int .u64 (limb a 1 : Nat)), .v (.int .u64 (limb a 2 : Nat)), .v (.int .u64 (limb a 3 : Nat))] 41, .cells [.v (.int .u64 (limb b 0 : Nat)), .v (.int .u64 (limb b 1 : Nat)), .v (.int .u64 (limb b 2 : Nat)), .v (.int .u64 (limb b 3 : Nat))] 41, .cells [.v (.int .u64 0), .v (.int .u64 0), .v (.int .u64 0), .v (.int .u64 0)] 41, .cells [.v (.int .u64 (o0 : Nat)), .v (.int .u64 (o1 : Nat)), .v (.int .u64 0), .v (.int .u64 0)] 41]⟩ := fun c2 hc1 hs => by
    refine rm_2 o0 o1 c2 a b hc1 Q ?_
    intro o2 o3 c3 c4 k2 l2 m2 k3 l3 m3
    exact hq o1 o2 o3 c2 c3 c4 hs ol hc1 k2 l2 m2 k3 l3 m3
  refine FOk.rnd (run_sound hm 60 ((rm1 o0 c1 a b 3 _ _).mpr ⟨?_⟩))
  simp only [cond_dec, e]
  refine And.intro (fun _ => by omega) (And.intro (fun _ => by omega) (And.intro (fun _ => by omega) (And.intro (fun _ => by omega) (And.intro (fun _ => by omega) (And.intro (fun _ => by omega) (ite_intro (fun h => next 1 (by omega) (e1 h)) (fun h => ite_intro (fun h2 => next 1 (by omega) (e2 h h2)) (fun h2 => next 0 (by omega) (e3 h h2)))))))))
theorem rm_0 (c0 a b : Nat) (hc : c0 ≤ 1) (Q : SV → List HO → Prop) (hq : ∀ o0 o1 o2 o3 c1 c2 c3 c4 : Nat, limb a 0 + 18446744073709551616 * c1 = o0 + limb b 0 + c0 → o0 < 18446744073709551616 → c1 ≤ 1 → limb a 1 + 18446744073709551616 * c2 = o1 + limb b 1 + c1 → o1 < 18446744073709551616 → c2 ≤ 1 → limb a 2 + 18446744073709551616 * c3 = o2 + limb b 2 + c2 → o2 < 18446744073709551616 → c3 ≤ 1 → limb a 3 + 18446744073709551616 * c4 = o3 + limb b 3 + c3 → o3 < 18446744073709551616 → c4 ≤ 1 → Q (.agg [.v (.int .u64 (o0 : Nat)), .v (.int .u64 (o1 : Nat)), .v (.int .u64 (o2 : Nat)), .v (.int .u64 (o3 : Nat))]) []) : FOk Try.prog Try.f88 Q (.rnd [0,0,1,0,1,1,1] 5 :: [.blk 0, .at [1, 1, 1, 1]]) ⟨[(2, .p 0 0), (3, .p 1 0), (4, .p 2 0), (5, .p 3 0), (6, .v (.int .u64 (c0 : Nat))), (7, .v (.int .i64 0))], [.cells [.v (.int .u64 (limb a 0 : Nat)), .v (.int .u64 (limb a 1 : Nat)), .v (.int .u64 (limb a 2 : Nat)), .v (.int .u64 (limb a 3 : Nat))] 41, .cells [.v (.int .u64 (limb b 0 : Nat)), .v (.int .u64 (limb b 1 : Nat)), .v (.int .u64 (limb b 2 : Nat)), .v (.int .u64 (limb b 3 : Nat))] 41, .cells [.v (.int .u64 0), .v (.int .u64 0), .v (.int .u64 0), .v (.int .u64 0)] 41, .cells [.v (.int .u64 0), .v (.int .u64 0), .v (.int .u64 0), .v (.int .u64 0)] 41]⟩ := by
  obtain ⟨o0, ol, e, e1, e2, e3⟩ := mst (limb a 0) (limb b 0) c0 (limb_lt a 0) (limb_lt b 0) hc
  have next : ∀ c1 : Nat, c1 ≤ 1 → limb a 0 + 18446744073709551616 * c1 = o0 + limb b 0 + c0 → FOk Try.prog Try.f88 Q (.rnd [0,0,1,0,1,1,1] 4 :: [.blk 0, .at [1, 1, 1, 1]]) ⟨[(2, .p 0 0), (3, .p 1 0), (4, .p 2 0), (5, .p 3 0), (6, .v (.int .u64 (c1 : Nat))), (7, .v (.int .i64 1))], [.cells [.v (.int .u64 (limb a 0 : Nat)), .v (.int .u64 (limb a 1 : Nat)), .v (.int .u64 (limb a 2 : Nat)), .v (.int .u64 (limb a 3 : Nat))] 41, .cells [.v (.int .u64 (limb b 0 : Nat)), .v (.int .u64 (limb b 1 : Nat)), .v (.int .u64 (limb b 2 : Nat)), .v (.int .u64 (limb b 3 : Nat))] 41, .cells [.v (.int .u64 0), .v (.int .u64 0), .v (.int .u64 0), .v (.int .u64 0)] 41, .cells [.v (.int .u64 (o0 : Nat)), .v (.int .u64 0), .v (.int .u64 0), .v (.int .u64 0)] 41]⟩ := fun c1 hc1 hs => by
    refine rm_1 o0 c1 a b hc1 Q ?_
    intro o1 o2 o3 c2 c3 c4 k1 l1 m1 k2 l2 m2 k3 l3 m3
    exact hq o0 o1 o2 o3 c1 c2 c3 c4 hs ol hc1 k1 l1 m1 k2 l2 m2 k3 l3 m3
  refine FOk.rnd (run_sound hm 60 ((rm0 c0 a b 4 _ _).mpr ⟨?_⟩))
  simp only [cond_dec, e]
  refine And.intro (fun _ => by omega) (And.intro (fun _ => by omega) (And.intro (fun _ => by omega) (And.intro (fun _ => by omega) (And.intro (fun _ => by omega) (And.intro (fun _ => by omega) (ite_intro (fun h => next 1 (by omega) (e1 h)) (fun h => ite_intro (fun h2 => next 1 (by omega) (e2 h h2)) (fun h2 => next 0 (by omega) (e3 h h2)))))))))
theorem bRm : Try.f88.body.isSome = true := by kernel_rfl
theorem nRm (a b : Nat) : Nat.ble [eS a, eS b].length Try.f88.ntmps = true := by kernel_rfl
theorem rm_ok (a b : Nat) (ha : a < top) (hb : b < top) (Q : SV → List HO → Prop) (hq : Q (eS (wsub a b)) []) : FnOk Try.prog 88 [eS a, eS b] [] Q := by
  refine fn_of_ok Try.func88 bRm ?_ ?_
  · exact nRm a b
  refine run_sound hm 60 ((rmS a b _ _).mpr ⟨And.intro (fun _ => by omega) ?_⟩)
  refine FOk.loop 5 (by kernel_rfl) (rm_0 0 a b (by omega) Q ?_)
  intro o0 o1 o2 o3 c1 c2 c3 c4 k0 l0 m0 k1 l1 m1 k2 l2 m2 k3 l3 m3
  have hs := sub_limbs (limb a 0) (limb a 1) (limb a 2) (limb a 3) (limb b 0) (limb b 1) (limb b 2) (limb b 3) c1 c2 c3 c4 o0 o1 o2 o3 k0 k1 k2 k3
  rw [nv_self a ha, nv_self b hb] at hs
  obtain ⟨f0, f1, f2, f3⟩ := limb_nv l0 l1 l2 l3
  have hlt := nv_lt l0 l1 l2 l3
  have hw : wsub a b = nv o0 o1 o2 o3 + top * (1 - c4) := by
    rw [wsub]
    have : c4 = 0 ∨ c4 = 1 := by omega
    rcases this with rfl | rfl
    · rw [Nat.mul_zero] at hs; rw [Nat.sub_zero, Nat.mul_one]; omega
    · rw [Nat.mul_one] at hs; rw [Nat.sub_self, Nat.mul_zero]; omega
  rw [hw, eS, limb_top _ _ 0 (by omega), limb_top _ _ 1 (by omega), limb_top _ _ 2 (by omega), limb_top _ _ 3 (by omega), f0, f1, f2, f3] at hq
  exact hq
noncomputable def gRm : List SV → List HO → Option ((SV → List HO → Prop) → Prop)
  | [.agg [.v (.int .u64 a0), .v (.int .u64 a1), .v (.int .u64 a2), .v (.int .u64 a3)], .agg [.v (.int .u64 b0), .v (.int .u64 b1), .v (.int .u64 b2), .v (.int .u64 b3)]], [] => some fun Q => c2C [a0, a1, a2, a3] [b0, b1, b2, b3] fun a b => Q (eS (wsub a b)) []
  | _, _ => none
theorem gRm_ok (args : List SV) (h : List HO) (tr : (SV → List HO → Prop) → Prop) (Q : SV → List HO → Prop) (hc : gRm args h = some tr) (ht : tr Q) : FnOk Try.prog 88 args h Q := by
  unfold gRm at hc
  split at hc
  · rename_i a0 a1 a2 a3 b0 b1 b2 b3
    simp only [Option.some.injEq] at hc
    subst hc
    obtain ⟨a, b, e1, e2, ha, hb, hq⟩ := ht.h
    simp only [List.cons.injEq, and_true] at e1 e2
    obtain ⟨rfl, rfl, rfl, rfl⟩ := e1
    obtain ⟨rfl, rfl, rfl, rfl⟩ := e2
    exact rm_ok a b ha hb Q hq
  · cases hc
theorem rp_4 (o0 o1 o2 o3 c4 a b : Nat) (Q : SV → List HO → Prop) (hq : Q (.agg [.v (.int .u64 (o0 : Nat)), .v (.int .u64 (o1 : Nat)), .v (.int .u64 (o2 : Nat)), .v (.int .u64 (o3 : Nat))]) []) : FOk Try.prog Try.f89 Q (.rnd [0,0,1,0,1,1,1] 1 :: [.blk 0, .at [1, 1, 1, 1]]) ⟨[(2, .p 0 0), (3, .p 1 0), (4, .p 2 0), (5, .p 3 0), (6, .v (.int .u64 (c4 : Nat))), (7, .v (.int .i64 4))], [.cells [.v (.int .u64 (limb a 0 : Nat)), .v (.int .u64 (limb a 1 : Nat)), .v (.int .u64 (limb a 2 : Nat)), .v (.int .u64 (limb a 3 : Nat))] 41, .cells [.v (.int .u64 (limb b 0 : Nat)), .v (.int .u64 (limb b 1 : Nat)), .v (.int .u64 (limb b 2 : Nat)), .v (.int .u64 (limb b 3 : Nat))] 41, .cells [.v (.int .u64 0), .v (.int .u64 0), .v (.int .u64 0), .v (.int .u64 0)] 41, .cells [.v (.int .u64 (o0 : Nat)), .v (.int .u64 (o1 : Nat)), .v (.int .u64 (o2 : Nat)), .v (.int .u64 (o3 : Nat))] 41]⟩ := by
  refine FOk.rnd (run_sound hm 60 ((rp4 o0 o1 o2 o3 c4 a b 0 _ _).mpr ⟨?_⟩))
  exact And.intro (fun _ => by omega) hq
theorem rp_3 (o0 o1 o2 c3 a b : Nat) (hc : c3 ≤ 1) (Q : SV → List HO → Prop) (hq : ∀ o3 c4 : Nat, limb a 3 + limb b 3 + c3 = o3 + 18446744073709551616 * c4 → o3 < 18446744073709551616 → c4 ≤ 1 → Q (.agg [.v (.int .u64 (o0 : Nat)), .v (.int .u64 (o1 : Nat)), .v (.int .u64 (o2 : Nat)), .v (.int .u64 (o3 : Nat))]) []) : FOk Try.prog Try.f89 Q (.rnd [0,0,1,0,1,1,1] 2 :: [.blk 0, .at [1, 1, 1, 1]]) ⟨[(2, .p 0 0), (3, .p 1 0), (4, .p 2 0), (5, .p 3 0), (6, .v (.int .u64 (c3 : Nat))), (7, .v (.int .i64 3))], [.cells [.v (.int .u64 (limb a 0 : Nat)), .v (.int .u64 (limb a 1 : Nat)), .v (.int .u64 (limb a 2 : Nat)), .v (.int .u64 (limb a 3 : Nat))] 41, .cells [.v (.int .u64 (limb b 0 : Nat)), .v (.int .u64 (limb b 1 : Nat)), .v (.int .u64 (limb b 2 : Nat)), .v (.int .u64 (limb b 3 : Nat))] 41, .cells [.v (.int .u64 0), .v (.int .u64 0), .v (.int .u64 0), .v (.int .u64 0)] 41, .cells [.v (.int .u64 (o0 : Nat)), .v (.int .u64 (o1 : Nat)), .v (.int .u64 (o2 : Nat)), .v (.int .u64 0)] 41]⟩ := by
  obtain ⟨o3, ol, e, e1, e2, e3⟩ := pst (limb a 3) (limb b 3) c3 (limb_lt a 3) (limb_lt b 3) hc
  have next : ∀ c4 : Nat, c4 ≤ 1 → limb a 3 + limb b 3 + c3 = o3 + 18446744073709551616 * c4 → FOk Try.prog Try.f89 Q (.rnd [0,0,1,0,1,1,1] 1 :: [.blk 0, .at [1, 1, 1, 1]]) ⟨[(2, .p 0 0), (3, .p 1 0), (4, .p 2 0), (5, .p 3 0), (6, .v (.int .u64 (c4 : Nat))), (7, .v (.int .i64 4))], [.cells [.v (.int .u64 (limb a 0 : Nat)), .v (.int .u64 (limb a 1 : Nat)), .v (.int .u64 (limb a 2 : Nat)), .v (.int .u64 (limb a 3 : Nat))] 41, .cells [.v (.int .u64 (limb b 0 : Nat)), .v (.int .u64 (limb b 1 : Nat)), .v (.int .u64 (limb b 2 : Nat)), .v (.int .u64 (limb b 3 : Nat))] 41, .cells [.v (.int .u64 0), .v (.int .u64 0), .v (.int .u64 0), .v (.int .u64 0)] 41, .cells [.v (.int .u64 (o0 : Nat)), .v (.int .u64 (o1 : Nat)), .v (.int .u64 (o2 : Nat)), .v (.int .u64 (o3 : Nat))] 41]⟩ := fun c4 hc1 hs => by
    exact rp_4 o0 o1 o2 o3 c4 a b Q (hq o3 c4 hs ol hc1)
  refine FOk.rnd (run_sound hm 60 ((rp3 o0 o1 o2 c3 a b 1 _ _).mpr ⟨?_⟩))
  simp only [cond_dec, e]
  refine And.intro (fun _ => by omega) (And.intro (fun _ => by omega) (And.intro (fun _ => by omega) (And.intro (fun _ => by omega) (And.intro (fun _ => by omega) (ite_intro (fun h => next 1 (by omega) (e1 h)) (fun h => And.intro (fun _ => by omega) (ite_intro (fun h2 => next 1 (by omega) (e2 h h2)) (fun h2 => next 0 (by omega) (e3 h h2)))))))))
theorem rp_2 (o0 o1 c2 a b : Nat) (hc : c2 ≤ 1) (Q : SV → List HO → Prop) (hq : ∀ o2 o3 c3 c4 : Nat, limb a 2 + limb b 2 + c2 = o2 + 18446744073709551616 * c3 → o2 < 18446744073709551616 → c3 ≤ 1 → limb a 3 + limb b 3 + c3 = o3 + 18446744073709551616 * c4 → o3 < 18446744073709551616 → c4 ≤ 1 → Q (.agg [.v (.int .u64 (o0 : Nat)), .v (.int .u64 (o1 : Nat)), .v (.int .u64 (o2 : Nat)), .v (.int .u64 (o3 : Nat))]) []) : FOk Try.prog Try.f89 Q (.rnd [0,0,1,0,1,1,1] 3 :: [.blk 0, .at [1, 1, 1, 1]]) ⟨[(2, .p 0 0), (3, .p 1 0), (4, .p 2 0), (5, .p 3 0), (6, .v (.int .u64 (c2 : Nat))), (7, .v (.int .i64 2))], [.cells [.v (.int .u64 (limb a 0 : Nat)), .v (.int .u64 (limb a 1 : Nat)), .v (.int .u64 (limb a 2 : Nat)), .v (.int .u64 (limb a 3 : Nat))] 41, .cells [.v (.int .u64 (limb b 0 : Nat)), .v (.int .u64 (limb b 1 : Nat)), .v (.int .u64 (limb b 2 : Nat)), .v (.int .u64 (limb b 3 : Nat))] 41, .cells [.v (.int .u64 0), .v (.int .u64 0), .v (.int .u64 0), .v (.int .u64 0)] 41, .cells [.v (.int .u64 (o0 : Nat)), .v (.int .u64 (o1 : Nat)), .v (.int .u64 0), .v (.int .u64 0)] 41]⟩ := by
  obtain ⟨o2, ol, e, e1, e2, e3⟩ := pst (limb a 2) (limb b 2) c2 (limb_lt a 2) (limb_lt b 2) hc
  have next : ∀ c3 : Nat, c3 ≤ 1 → limb a 2 + limb b 2 + c2 = o2 + 18446744073709551616 * c3 → FOk Try.prog Try.f89 Q (.rnd [0,0,1,0,1,1,1] 2 :: [.blk 0, .at [1, 1, 1, 1]]) ⟨[(2, .p 0 0), (3, .p 1 0), (4, .p 2 0), (5, .p 3 0), (6, .v (.int .u64 (c3 : Nat))), (7, .v (.int .i64 3))], [.cells [.v (.int .u64 (limb a 0 : Nat)), .v (.int .u64 (limb a 1 : Nat)), .v (.int .u64 (limb a 2 : Nat)), .v (.int .u64 (limb a 3 : Nat))] 41, .cells [.v (.int .u64 (limb b 0 : Nat)), .v (.int .u64 (limb b 1 : Nat)), .v (.int .u64 (limb b 2 : Nat)), .v (.int .u64 (limb b 3 : Nat))] 41, .cells [.v (.int .u64 0), .v (.int .u64 0), .v (.int .u64 0), .v (.int .u64 0)] 41, .cells [.v (.int .u64 (o0 : Nat)), .v (.int .u64 (o1 : Nat)), .v (.int .u64 (o2 : Nat)), .v (.int .u64 0)] 41]⟩ := fun c3 hc1 hs => by
    refine rp_3 o0 o1 o2 c3 a b hc1 Q ?_
    intro o3 c4 k3 l3 m3
    exact hq o2 o3 c3 c4 hs ol hc1 k3 l3 m3
  refine FOk.rnd (run_sound hm 60 ((rp2 o0 o1 c2 a b 2 _ _).mpr ⟨?_⟩))
  simp only [cond_dec, e]
  refine And.intro (fun _ => by omega) (And.intro (fun _ => by omega) (And.intro (fun _ => by omega) (And.intro (fun _ => by omega) (And.intro (fun _ => by omega) (ite_intro (fun h => next 1 (by omega) (e1 h)) (fun h => And.intro (fun _ => by omega) (ite_intro (fun h2 => next 1 (by omega) (e2 h h2)) (fun h2 => next 0 (by omega) (e3 h h2)))))))))
theorem rp_1 (o0 c1 a b : Nat) (hc : c1 ≤ 1) (Q : SV → List HO → Prop) (hq : ∀ o1 o2 o3 c2 c3 c4 : Nat, limb a 1 + limb b 1 + c1 = o1 + 18446744073709551616 * c2 → o1 < 18446744073709551616 → c2 ≤ 1 → limb a 2 + limb b 2 + c2 = o2 + 18446744073709551616 * c3 → o2 < 18446744073709551616 → c3 ≤ 1 → limb a 3 + limb b 3 + c3 = o3 + 18446744073709551616 * c4 → o3 < 18446744073709551616 → c4 ≤ 1 → Q (.agg [.v (.int .u64 (o0 : Nat)), .v (.int .u64 (o1 : Nat)), .v (.int .u64 (o2 : Nat)), .v (.int .u64 (o3 : Nat))]) []) : FOk Try.prog Try.f89 Q (.rnd [0,0,1,0,1,1,1] 4 :: [.blk 0, .at [1, 1, 1, 1]]) ⟨[(2, .p 0 0), (3, .p 1 0), (4, .p 2 0), (5, .p 3 0), (6, .v (.int .u64 (c1 : Nat))), (7, .v (.int .i64 1))], [.cells [.v (.int .u64 (limb a 0 : Nat)), .v (.int .u64 (limb a 1 : Nat)), .v (.int .u64 (limb a 2 : Nat)), .v (.int .u64 (limb a 3 : Nat))] 41, .cells [.v (.int .u64 (limb b 0 : Nat)), .v (.int .u64 (limb b 1 : Nat)), .v (.int .u64 (limb b 2 : Nat)), .v (.int .u64 (limb b 3 : Nat))] 41, .cells [.v (.int .u64 0), .v (.int .u64 0), .v (.int .u64 0), .v (.int .u64 0)] 41, .cells [.v (.int .u64 (o0 : Nat)), .v (.int .u64 0), .v (.int .u64 0), .v (.int .u64 0)] 41]⟩ := by
  obtain ⟨o1, ol, e, e1, e2, e3⟩ := pst (limb a 1) (limb b 1) c1 (limb_lt a 1) (limb_lt b 1) hc
  have next : ∀ c2 : Nat, c2 ≤ 1 → limb a 1 + limb b 1 + c1 = o1 + 18446744073709551616 * c2 → FOk Try.prog Try.f89 Q (.rnd [0,0,1,0,1,1,1] 3 :: [.blk 0, .at [1, 1, 1, 1]]) ⟨[(2, .p 0 0), (3, .p 1 0), (4, .p 2 0), (5, .p 3 0), (6, .v (.int .u64 (c2 : Nat))), (7, .v (.int .i64 2))], [.cells [.v (.int .u64 (limb a 0 : Nat)), .v (.int .u64 (limb a 1 : Nat)), .v (.int .u64 (limb a 2 : Nat)), .v (.int .u64 (limb a 3 : Nat))] 41, .cells [.v (.int .u64 (limb b 0 : Nat)), .v (.int .u64 (limb b 1 : Nat)), .v (.int .u64 (limb b 2 : Nat)), .v (.int .u64 (limb b 3 : Nat))] 41, .cells [.v (.int .u64 0), .v (.int .u64 0), .v (.int .u64 0), .v (.int .u64 0)] 41, .cells [.v (.int .u64 (o0 : Nat)), .v (.int .u64 (o1 : Nat)), .v (.int .u64 0), .v (.int .u64 0)] 41]⟩ := fun c2 hc1 hs => by
    refine rp_2 o0 o1 c2 a b hc1 Q ?_
    intro o2 o3 c3 c4 k2 l2 m2 k3 l3 m3
    exact hq o1 o2 o3 c2 c3 c4 hs ol hc1 k2 l2 m2 k3 l3 m3
  refine FOk.rnd (run_sound hm 60 ((rp1 o0 c1 a b 3 _ _).mpr ⟨?_⟩))
  simp only [cond_dec, e]
  refine And.intro (fun _ => by omega) (And.intro (fun _ => by omega) (And.intro (fun _ => by omega) (And.intro (fun _ => by omega) (And.intro (fun _ => by omega) (ite_intro (fun h => next 1 (by omega) (e1 h)) (fun h => And.intro (fun _ => by omega) (ite_intro (fun h2 => next 1 (by omega) (e2 h h2)) (fun h2 => next 0 (by omega) (e3 h h2)))))))))
theorem rp_0 (c0 a b : Nat) (hc : c0 ≤ 1) (Q : SV → List HO → Prop) (hq : ∀ o0 o1 o2 o3 c1 c2 c3 c4 : Nat, limb a 0 + limb b 0 + c0 = o0 + 18446744073709551616 * c1 → o0 < 18446744073709551616 → c1 ≤ 1 → limb a 1 + limb b 1 + c1 = o1 + 18446744073709551616 * c2 → o1 < 18446744073709551616 → c2 ≤ 1 → limb a 2 + limb b 2 + c2 = o2 + 18446744073709551616 * c3 → o2 < 18446744073709551616 → c3 ≤ 1 → limb a 3 + limb b 3 + c3 = o3 + 18446744073709551616 * c4 → o3 < 18446744073709551616 → c4 ≤ 1 → Q (.agg [.v (.int .u64 (o0 : Nat)), .v (.int .u64 (o1 : Nat)), .v (.int .u64 (o2 : Nat)), .v (.int .u64 (o3 : Nat))]) []) : FOk Try.prog Try.f89 Q (.rnd [0,0,1,0,1,1,1] 5 :: [.blk 0, .at [1, 1, 1, 1]]) ⟨[(2, .p 0 0), (3, .p 1 0), (4, .p 2 0), (5, .p 3 0), (6, .v (.int .u64 (c0 : Nat))), (7, .v (.int .i64 0))], [.cells [.v (.int .u64 (limb a 0 : Nat)), .v (.int .u64 (limb a 1 : Nat)), .v (.int .u64 (limb a 2 : Nat)), .v (.int .u64 (limb a 3 : Nat))] 41, .cells [.v (.int .u64 (limb b 0 : Nat)), .v (.int .u64 (limb b 1 : Nat)), .v (.int .u64 (limb b 2 : Nat)), .v (.int .u64 (limb b 3 : Nat))] 41, .cells [.v (.int .u64 0), .v (.int .u64 0), .v (.int .u64 0), .v (.int .u64 0)] 41, .cells [.v (.int .u64 0), .v (.int .u64 0), .v (.int .u64 0), .v (.int .u64 0)] 41]⟩ := by
  obtain ⟨o0, ol, e, e1, e2, e3⟩ := pst (limb a 0) (limb b 0) c0 (limb_lt a 0) (limb_lt b 0) hc
  have next : ∀ c1 : Nat, c1 ≤ 1 → limb a 0 + limb b 0 + c0 = o0 + 18446744073709551616 * c1 → FOk Try.prog Try.f89 Q (.rnd [0,0,1,0,1,1,1] 4 :: [.blk 0, .at [1, 1, 1, 1]]) ⟨[(2, .p 0 0), (3, .p 1 0), (4, .p 2 0), (5, .p 3 0), (6, .v (.int .u64 (c1 : Nat))), (7, .v (.int .i64 1))], [.cells [.v (.int .u64 (limb a 0 : Nat)), .v (.int .u64 (limb a 1 : Nat)), .v (.int .u64 (limb a 2 : Nat)), .v (.int .u64 (limb a 3 : Nat))] 41, .cells [.v (.int .u64 (limb b 0 : Nat)), .v (.int .u64 (limb b 1 : Nat)), .v (.int .u64 (limb b 2 : Nat)), .v (.int .u64 (limb b 3 : Nat))] 41, .cells [.v (.int .u64 0), .v (.int .u64 0), .v (.int .u64 0), .v (.int .u64 0)] 41, .cells [.v (.int .u64 (o0 : Nat)), .v (.int .u64 0), .v (.int .u64 0), .v (.int .u64 0)] 41]⟩ := fun c1 hc1 hs => by
    refine rp_1 o0 c1 a b hc1 Q ?_
    intro o1 o2 o3 c2 c3 c4 k1 l1 m1 k2 l2 m2 k3 l3 m3
    exact hq o0 o1 o2 o3 c1 c2 c3 c4 hs ol hc1 k1 l1 m1 k2 l2 m2 k3 l3 m3
  refine FOk.rnd (run_sound hm 60 ((rp0 c0 a b 4 _ _).mpr ⟨?_⟩))
  simp only [cond_dec, e]
  refine And.intro (fun _ => by omega) (And.intro (fun _ => by omega) (And.intro (fun _ => by omega) (And.intro (fun _ => by omega) (And.intro (fun _ => by omega) (ite_intro (fun h => next 1 (by omega) (e1 h)) (fun h => And.intro (fun _ => by omega) (ite_intro (fun h2 => next 1 (by omega) (e2 h h2)) (fun h2 => next 0 (by omega) (e3 h h2)))))))))
theorem bRp : Try.f89.body.isSome = true := by kernel_rfl
theorem nRp (a b : Nat) : Nat.ble [eS a, eS b].length Try.f89.ntmps = true := by kernel_rfl
theorem rp_ok (a b : Nat) (ha : a < top) (hb : b < top) (Q : SV → List HO → Prop) (hq : Q (eS (wadd a b)) []) : FnOk Try.prog 89 [eS a, eS b] [] Q := by
  refine fn_of_ok Try.func89 bRp ?_ ?_
  · exact nRp a b
  refine run_sound hm 60 ((rpS a b _ _).mpr ⟨And.intro (fun _ => by omega) ?_⟩)
  refine FOk.loop 5 (by kernel_rfl) (rp_0 0 a b (by omega) Q ?_)
  intro o0 o1 o2 o3 c1 c2 c3 c4 k0 l0 m0 k1 l1 m1 k2 l2 m2 k3 l3 m3
  have hs := add_limbs (limb a 0) (limb a 1) (limb a 2) (limb a 3) (limb b 0) (limb b 1) (limb b 2) (limb b 3) c1 c2 c3 c4 o0 o1 o2 o3 k0 k1 k2 k3
  rw [nv_self a ha, nv_self b hb] at hs
  obtain ⟨f0, f1, f2, f3⟩ := limb_nv l0 l1 l2 l3
  rw [wadd, hs, eS, limb_top _ _ 0 (by omega), limb_top _ _ 1 (by omega), limb_top _ _ 2 (by omega), limb_top _ _ 3 (by omega), f0, f1, f2, f3] at hq
  exact hq
noncomputable def gRp : List SV → List HO → Option ((SV → List HO → Prop) → Prop)
  | [.agg [.v (.int .u64 a0), .v (.int .u64 a1), .v (.int .u64 a2), .v (.int .u64 a3)], .agg [.v (.int .u64 b0), .v (.int .u64 b1), .v (.int .u64 b2), .v (.int .u64 b3)]], [] => some fun Q => c2C [a0, a1, a2, a3] [b0, b1, b2, b3] fun a b => Q (eS (wadd a b)) []
  | _, _ => none
theorem gRp_ok (args : List SV) (h : List HO) (tr : (SV → List HO → Prop) → Prop) (Q : SV → List HO → Prop) (hc : gRp args h = some tr) (ht : tr Q) : FnOk Try.prog 89 args h Q := by
  unfold gRp at hc
  split at hc
  · rename_i a0 a1 a2 a3 b0 b1 b2 b3
    simp only [Option.some.injEq] at hc
    subst hc
    obtain ⟨a, b, e1, e2, ha, hb, hq⟩ := ht.h
    simp only [List.cons.injEq, and_true] at e1 e2
    obtain ⟨rfl, rfl, rfl, rfl⟩ := e1
    obtain ⟨rfl, rfl, rfl, rfl⟩ := e2
    exact rp_ok a b ha hb Q hq
  · cases hc
noncomputable def K38 : Con Try.prog := ((K31.add 87 gRb gRb_ok).add 88 gRm gRm_ok).add 89 gRp gRp_ok
end Go.Proofs.Ytpghmnpbfaichaa
/- The document's moduli. -/
namespace Go.Pl
open Go.Sx
def litP (s : Int) : Nat := if s = 0 then 16513537 else 16521217
theorem litP_le (s : Int) : 16513537 ≤ litP s ∧ litP s ≤ 16521217 := by unfold litP; split <;> omega
theorem litP_fP {s : Int} (h : s = 0 ∨ s = 1) : litP s = fP s := by rcases h with rfl | rfl <;> rfl
end Go.Pl
namespace Go.Proofs.Ytpghmnpbfaichaa
open Go.Sx Go.Pl
set_option linter.unusedVariables false
set_option maxRecDepth 100000
theorem liS (s : Int) (K : List It → St → Prop) (R : SV → List HO → Prop) : W (xwp Try.prog X K38 [] 60 (fxOf Try.f85 [] []) [] [.at []] ⟨argsS 0 [.v (.int .i64 s)], []⟩ K R) = W (bif s == (0 : Int) then R (SV.v (vu64 (16513537 : Int))) [] else R (SV.v (vu64 (16521217 : Int))) []) := by kernel_rfl
theorem moS (s : Int) (K : List It → St → Prop) (R : SV → List HO → Prop) : W (xwp Try.prog X K38 [] 60 (fxOf Try.f86 [] []) [] [.at []] ⟨argsS 0 [.v (.int .i64 s)], []⟩ K R) = W (bif s == (0 : Int) then (∀ (M : Mem), 4 ≤ 4) ∧ R (SV.tup [SV.agg [SV.v (vu64 (16513537 : Int)), SV.v (vu64 (0 : Int)), SV.v (vu64 (0 : Int)), SV.v (vu64 (0 : Int))], SV.v (vi64 (0 : Int))]) [] else bif s == (1 : Int) then (∀ (M : Mem), 4 ≤ 4) ∧ R (SV.tup [SV.agg [SV.v (vu64 (16521217 : Int)), SV.v (vu64 (0 : Int)), SV.v (vu64 (0 : Int)), SV.v (vu64 (0 : Int))], SV.v (vi64 (0 : Int))]) [] else bif s == (2 : Int) then (∀ (M : Mem), 4 ≤ 4) ∧ R (SV.tup [SV.agg [SV.v (vu64 (11037532056220336129 : Int)), SV.v (vu64 (2469829653914515739 : Int)), SV.v (vu64 (0 : Int)), SV.v (vu64 (4611686018427387904 : Int))], SV.v (vi64 (0 : Int))]) [] else bif s == (3 : Int) then (∀ (M : Mem), 4 ≤ 4) ∧ R (SV.tup [SV.agg [SV.v (vu64 (10108024940646105089 : Int)), SV.v (vu64 (2469829653919213789 : Int)), SV.v (vu64 (0 : Int)), SV.v (vu64 (4611686018427387904 : Int))], SV.v (vi64 (0 : Int))]) [] else (∀ (M : Mem), 4 ≤ 4) ∧ R (SV.tup [SV.agg [SV.v (vu64 (0 : Int)), SV.v (vu64 (0 : Int)), SV.v (vu64 (0 : Int)), SV.v (vu64 (0 : Int))], SV.v (vi64 (20 : Int))]) []) := by kernel_rfl
theorem bLi : Try.f85.body.isSome = true := by kernel_rfl
theorem nLi (s : Int) : Nat.ble [SV.v (.int .i64 s)].length Try.f85.ntmps = true := by kernel_rfl
theorem li_ok (s : Int) (Q : SV → List HO → Prop) (hq : Q (.v (.int .u64 (litP s : Nat))) []) : FnOk Try.prog 85 [.v (.int .i64 s)] [] Q := by
  refine fn_of_ok Try.func85 bLi ?_ ?_
  · exact nLi s
  refine run_sound hm 60 ((liS s _ _).mpr ⟨?_⟩)
  rw [cond_beq]
  refine ite_intro (fun h => ?_) (fun h => ?_)
  · rw [litP, if_pos h] at hq; exact hq
  · rw [litP, if_neg h] at hq; exact hq
noncomputable def gLi : List SV → List HO → Option ((SV → List HO → Prop) → Prop)
  | [.v (.int .i64 s)], [] => some fun Q => Q (.v (.int .u64 (litP s : Nat))) []
  | _, _ => none
theorem gLi_ok (args : List SV) (h : List HO) (tr : (SV → List HO → Prop) → Prop) (Q : SV → List HO → Prop) (hc : gLi args h = some tr) (ht : tr Q) : FnOk Try.prog 85 args h Q := by
  unfold gLi at hc
  split at hc
  · rename_i s
    simp only [Option.some.injEq] at hc
    subst hc
    exact li_ok s Q ht
  · cases hc
theorem bMo : Try.f86.body.isSome = true := by kernel_rfl
theorem nMo (s : Int) : Nat.ble [SV.v (.int .i64 s)].length Try.f86.ntmps = true := by kernel_rfl
theorem mo_ok (s : Int) (Q : SV → List HO → Prop) (hq : Q (.tup [eS (fP s), .v (.int .i64 (fE s))]) []) : FnOk Try.prog 86 [.v (.int .i64 s)] [] Q := by
  refine fn_of_ok Try.func86 bMo ?_ ?_
  · exact nMo s
  refine run_sound hm 60 ((moS s _ _).mpr ⟨?_⟩)
  simp only [cond_beq]
  refine ite_intro (fun h0 => ?_) (fun h0 => ?_)
  · subst h0
    refine And.intro (fun _ => by omega) ?_
    have e : fE 0 = 0 := rfl
    rw [show fP 0 = 16513537 from rfl, e, eS, (limb_small 16513537 (by omega)).1, (limb_small 16513537 (by omega)).2.1, (limb_small 16513537 (by omega)).2.2.1, (limb_small 16513537 (by omega)).2.2.2] at hq
    exact hq
  refine ite_intro (fun h1 => ?_) (fun h1 => ?_)
  · subst h1
    refine And.intro (fun _ => by omega) ?_
    have e : fE 1 = 0 := rfl
    rw [show fP 1 = 16521217 from rfl, e, eS, (limb_small 16521217 (by omega)).1, (limb_small 16521217 (by omega)).2.1, (limb_small 16521217 (by omega)).2.2.1, (limb_small 16521217 (by omega)).2.2.2] at hq
    exact hq
  refine ite_intro (fun h2 => ?_) (fun h2 => ?_)
  · subst h2
    refine And.intro (fun _ => by omega) ?_
    have e : fE 2 = 0 := rfl
    rw [show fP 2 = 28948022309329048855892746252171976963363056481941560715954676764349967630337 from rfl, e, eS, limbP2.1, limbP2.2.1, limbP2.2.2.1, limbP2.2.2.2] at hq
    exact hq
  refine ite_intro (fun h3 => ?_) (fun h3 => ?_)
  · subst h3
    refine And.intro (fun _ => by omega) ?_
    have e : fE 3 = 0 := rfl
    rw [show fP 3 = 28948022309329048855892746252171976963363056481941647379679742748393362948097 from rfl, e, eS, limbP3.1, limbP3.2.1, limbP3.2.2.1, limbP3.2.2.2] at hq
    exact hq
  refine And.intro (fun _ => by omega) ?_
  rw [fE, if_pos (fP_no h0 h1 h2 h3), fP_no h0 h1 h2 h3, eS_zero] at hq
  exact hq
noncomputable def gMo : List SV → List HO → Option ((SV → List HO → Prop) → Prop)
  | [.v (.int .i64 s)], [] => some fun Q => Q (.tup [eS (fP s), .v (.int .i64 (fE s))]) []
  | _, _ => none
theorem gMo_ok (args : List SV) (h : List HO) (tr : (SV → List HO → Prop) → Prop) (Q : SV → List HO → Prop) (hc : gMo args h = some tr) (ht : tr Q) : FnOk Try.prog 86 args h Q := by
  unfold gMo at hc
  split at hc
  · rename_i s
    simp only [Option.some.injEq] at hc
    subst hc
    exact mo_ok s Q ht
  · cases hc
noncomputable def K39 : Con Try.prog := (K38.add 85 gLi gLi_ok).add 86 gMo gMo_ok
end Go.Proofs.Ytpghmnpbfaichaa
/- The document's remainder. -/
namespace Go.Pl
open Go.Sx
/-- A number's remainder in a field. -/
noncomputable def fO (s : Int) (a : Nat) : Nat := if fP s = 0 then 0 else fR (fP s) a
theorem ofH (p r x : Nat) (hp : p ≤ 16521217) (hr : r < p) (hx : x < 4294967296) : Int.tmod (IntKind.wrap IntKind.u64 (IntKind.wrap IntKind.u64 ((r : Int) * (4294967296 : Int)) + (x : Int))) (p : Int) = ((r * 4294967296 + x) % p : Nat) := by
  rw [show (r : Int) * (4294967296 : Int) = ((r * 4294967296 : Nat) : Int) by omega, wrapN _ (by omega), addNN, wrapN _ (by omega)]
  rfl
theorem of0 (p x : Nat) (hx : x < 4294967296) : Int.tmod (IntKind.wrap IntKind.u64 ((0 : Int) + (x : Int))) (p : Int) = (x % p : Nat) := by
  rw [show (0 : Int) + (x : Int) = (x : Int) by omega, wrapN _ (by omega)]
  rfl
theorem mstep32 (p x y : Nat) : (x % p * 4294967296 + y) % p = (x * 4294967296 + y) % p := by
  rw [Nat.add_mod, Nat.mul_mod, Nat.mod_mod, ← Nat.mul_mod, ← Nat.add_mod]
theorem of_all (p a : Nat) (hp : p ≤ 16521217) (h0 : 0 < p) (ha : a < top) : Int.tmod (IntKind.wrap IntKind.u64 (IntKind.wrap IntKind.u64 (Int.tmod (IntKind.wrap IntKind.u64 (IntKind.wrap IntKind.u64 (Int.tmod (IntKind.wrap IntKind.u64 (IntKind.wrap IntKind.u64 (Int.tmod (IntKind.wrap IntKind.u64 (IntKind.wrap IntKind.u64 (Int.tmod (IntKind.wrap IntKind.u64 (IntKind.wrap IntKind.u64 (Int.tmod (IntKind.wrap IntKind.u64 (IntKind.wrap IntKind.u64 (Int.tmod (IntKind.wrap IntKind.u64 (IntKind.wrap IntKind.u64 (Int.tmod (IntKind.wrap IntKind.u64 ((0 : Int) + Int.fdiv (↑(limb a 3) : Int) (4294967296 : Int))) (↑p : Int) * (4294967296 : Int)) + IntKind.wrap IntKind.u64 (↑(limb a 3 % 18446744073709551616 &&& 4294967295) : Int))) (↑p : Int) * (4294967296 : Int)) + Int.fdiv (↑(limb a 2) : Int) (4294967296 : Int))) (↑p : Int) * (4294967296 : Int)) + IntKind.wrap IntKind.u64 (↑(limb a 2 % 18446744073709551616 &&& 4294967295) : Int))) (↑p : Int) * (4294967296 : Int)) + Int.fdiv (↑(limb a 1) : Int) (4294967296 : Int))) (↑p : Int) * (4294967296 : Int)) + IntKind.wrap IntKind.u64 (↑(limb a 1 % 18446744073709551616 &&& 4294967295) : Int))) (↑p : Int) * (4294967296 : Int)) + Int.fdiv (↑(limb a 0) : Int) (4294967296 : Int))) (↑p : Int) * (4294967296 : Int)) + IntKind.wrap IntKind.u64 (↑(limb a 0 % 18446744073709551616 &&& 4294967295) : Int))) (↑p : Int) = (a % p : Nat) := by
  have l0 := limb_lt a 0
  have l1 := limb_lt a 1
  have l2 := limb_lt a 2
  have l3 := limb_lt a 3
  have hn := nv_self a ha
  rw [fdivN, fdivN, fdivN, fdivN, maskM _ l0, maskM _ l1, maskM _ l2, maskM _ l3, of0, ofH, ofH, ofH, ofH, ofH, ofH, ofH]
  · simp only [mstep32]
    congr 2
    simp only [nv] at hn
    generalize limb a 0 = x0 at *
    generalize limb a 1 = x1 at *
    generalize limb a 2 = x2 at *
    generalize limb a 3 = x3 at *
    omega
  all_goals first
    | exact Nat.mod_lt _ h0
    | omega
end Go.Pl
namespace Go.Proofs.Ytpghmnpbfaichaa
open Go.Sx Go.Pl
set_option linter.unusedVariables false
set_option maxRecDepth 100000
theorem roS (s : Int) (a : Nat) (K : List It → St → Prop) (R : SV → List HO → Prop) : W (xwp Try.prog X K39 [] 60 (fxOf Try.f69 [([0,1,0,1,1,0,1,0,1],5)] [⟨[0,0,1,1,1,1], [3,4,8], []⟩]) [] [.at []] ⟨argsS 0 [.v (.int .i64 s), eS a], []⟩ K R) = W (bif s == (0 : Int) then (∀ (M : Mem), ¬(32 : Int) < (0 : Int)) ∧ (∀ (M : Mem), (0 : Int) ≤ (3 : Int) ∧ (3 : Int) < (4 : Int)) ∧ (∀ (M : Mem), ¬(32 : Int) < (0 : Int)) ∧ (∀ (M : Mem), ¬(↑(litP s) : Int) = (0 : Int)) ∧ (∀ (M : Mem), ¬(32 : Int) < (0 : Int)) ∧ (∀ (M : Mem), (0 : Int) ≤ (3 : Int) ∧ (3 : Int) < (4 : Int)) ∧ (∀ (M : Mem), ¬(↑(litP s) : Int) = (0 : Int)) ∧ (∀ (M : Mem), ¬(32 : Int) < (0 : Int)) ∧ (∀ (M : Mem), (0 : Int) ≤ (2 : Int) ∧ (2 : Int) < (4 : Int)) ∧ (∀ (M : Mem), ¬(32 : Int) < (0 : Int)) ∧ (∀ (M : Mem), ¬(↑(litP s) : Int) = (0 : Int)) ∧ (∀ (M : Mem), ¬(32 : Int) < (0 : Int)) ∧ (∀ (M : Mem), (0 : Int) ≤ (2 : Int) ∧ (2 : Int) < (4 : Int)) ∧ (∀ (M : Mem), ¬(↑(litP s) : Int) = (0 : Int)) ∧ (∀ (M : Mem), ¬(32 : Int) < (0 : Int)) ∧ (∀ (M : Mem), (0 : Int) ≤ (1 : Int) ∧ (1 : Int) < (4 : Int)) ∧ (∀ (M : Mem), ¬(32 : Int) < (0 : Int)) ∧ (∀ (M : Mem), ¬(↑(litP s) : Int) = (0 : Int)) ∧ (∀ (M : Mem), ¬(32 : Int) < (0 : Int)) ∧ (∀ (M : Mem), (0 : Int) ≤ (1 : Int) ∧ (1 : Int) < (4 : Int)) ∧ (∀ (M : Mem), ¬(↑(litP s) : Int) = (0 : Int)) ∧ (∀ (M : Mem), ¬(32 : Int) < (0 : Int)) ∧ (∀ (M : Mem), (0 : Int) ≤ (0 : Int) ∧ (0 : Int) < (4 : Int)) ∧ (∀ (M : Mem), ¬(32 : Int) < (0 : Int)) ∧ (∀ (M : Mem), ¬(↑(litP s) : Int) = (0 : Int)) ∧ (∀ (M : Mem), ¬(32 : Int) < (0 : Int)) ∧ (∀ (M : Mem), (0 : Int) ≤ (0 : Int) ∧ (0 : Int) < (4 : Int)) ∧ (∀ (M : Mem), ¬(↑(litP s) : Int) = (0 : Int)) ∧ (∀ (M : Mem), 0 + 4 ≤ 4) ∧ R (SV.agg [SV.v (vu64 (Int.tmod (IntKind.wrap IntKind.u64 (IntKind.wrap IntKind.u64 (Int.tmod (IntKind.wrap IntKind.u64 (IntKind.wrap IntKind.u64 (Int.tmod (IntKind.wrap IntKind.u64 (IntKind.wrap IntKind.u64 (Int.tmod (IntKind.wrap IntKind.u64 (IntKind.wrap IntKind.u64 (Int.tmod (IntKind.wrap IntKind.u64 (IntKind.wrap IntKind.u64 (Int.tmod (IntKind.wrap IntKind.u64 (IntKind.wrap IntKind.u64 (Int.tmod (IntKind.wrap IntKind.u64 (IntKind.wrap IntKind.u64 (Int.tmod (IntKind.wrap IntKind.u64 ((0 : Int) + Int.fdiv (↑(limb a 3) : Int) (4294967296 : Int))) (↑(litP s) : Int) * (4294967296 : Int)) + IntKind.wrap IntKind.u64 (↑(limb a 3 % 18446744073709551616 &&& 4294967295) : Int))) (↑(litP s) : Int) * (4294967296 : Int)) + Int.fdiv (↑(limb a 2) : Int) (4294967296 : Int))) (↑(litP s) : Int) * (4294967296 : Int)) + IntKind.wrap IntKind.u64 (↑(limb a 2 % 18446744073709551616 &&& 4294967295) : Int))) (↑(litP s) : Int) * (4294967296 : Int)) + Int.fdiv (↑(limb a 1) : Int) (4294967296 : Int))) (↑(litP s) : Int) * (4294967296 : Int)) + IntKind.wrap IntKind.u64 (↑(limb a 1 % 18446744073709551616 &&& 4294967295) : Int))) (↑(litP s) : Int) * (4294967296 : Int)) + Int.fdiv (↑(limb a 0) : Int) (4294967296 : Int))) (↑(litP s) : Int) * (4294967296 : Int)) + IntKind.wrap IntKind.u64 (↑(limb a 0 % 18446744073709551616 &&& 4294967295) : Int))) (↑(litP s) : Int))), SV.v (vu64 (0 : Int)), SV.v (vu64 (0 : Int)), SV.v (vu64 (0 : Int))]) [] else bif s == (1 : Int) then (∀ (M : Mem), ¬(32 : Int) < (0 : Int)) ∧ (∀ (M : Mem), (0 : Int) ≤ (3 : Int) ∧ (3 : Int) < (4 : Int)) ∧ (∀ (M : Mem), ¬(32 : Int) < (0 : Int)) ∧ (∀ (M : Mem), ¬(↑(litP s) : Int) = (0 : Int)) ∧ (∀ (M : Mem), ¬(32 : Int) < (0 : Int)) ∧ (∀ (M : Mem), (0 : Int) ≤ (3 : Int) ∧ (3 : Int) < (4 : Int)) ∧ (∀ (M : Mem), ¬(↑(litP s) : Int) = (0 : Int)) ∧ (∀ (M : Mem), ¬(32 : Int) < (0 : Int)) ∧ (∀ (M : Mem), (0 : Int) ≤ (2 : Int) ∧ (2 : Int) < (4 : Int)) ∧ (∀ (M : Mem), ¬(32 : Int) < (0 : Int)) ∧ (∀ (M : Mem), ¬(↑(litP s) : Int) = (0 : Int)) ∧ (∀ (M : Mem), ¬(32 : Int) < (0 : Int)) ∧ (∀ (M : Mem), (0 : Int) ≤ (2 : Int) ∧ (2 : Int) < (4 : Int)) ∧ (∀ (M : Mem), ¬(↑(litP s) : Int) = (0 : Int)) ∧ (∀ (M : Mem), ¬(32 : Int) < (0 : Int)) ∧ (∀ (M : Mem), (0 : Int) ≤ (1 : Int) ∧ (1 : Int) < (4 : Int)) ∧ (∀ (M : Mem), ¬(32 : Int) < (0 : Int)) ∧ (∀ (M : Mem), ¬(↑(litP s) : Int) = (0 : Int)) ∧ (∀ (M : Mem), ¬(32 : Int) < (0 : Int)) ∧ (∀ (M : Mem), (0 : Int) ≤ (1 : Int) ∧ (1 : Int) < (4 : Int)) ∧ (∀ (M : Mem), ¬(↑(litP s) : Int) = (0 : Int)) ∧ (∀ (M : Mem), ¬(32 : Int) < (0 : Int)) ∧ (∀ (M : Mem), (0 : Int) ≤ (0 : Int) ∧ (0 : Int) < (4 : Int)) ∧ (∀ (M : Mem), ¬(32 : Int) < (0 : Int)) ∧ (∀ (M : Mem), ¬(↑(litP s) : Int) = (0 : Int)) ∧ (∀ (M : Mem), ¬(32 : Int) < (0 : Int)) ∧ (∀ (M : Mem), (0 : Int) ≤ (0 : Int) ∧ (0 : Int) < (4 : Int)) ∧ (∀ (M : Mem), ¬(↑(litP s) : Int) = (0 : Int)) ∧ (∀ (M : Mem), 0 + 4 ≤ 4) ∧ R (SV.agg [SV.v (vu64 (Int.tmod (IntKind.wrap IntKind.u64 (IntKind.wrap IntKind.u64 (Int.tmod (IntKind.wrap IntKind.u64 (IntKind.wrap IntKind.u64 (Int.tmod (IntKind.wrap IntKind.u64 (IntKind.wrap IntKind.u64 (Int.tmod (IntKind.wrap IntKind.u64 (IntKind.wrap IntKind.u64 (Int.tmod (IntKind.wrap IntKind.u64 (IntKind.wrap IntKind.u64 (Int.tmod (IntKind.wrap IntKind.u64 (IntKind.wrap IntKind.u64 (Int.tmod (IntKind.wrap IntKind.u64 (IntKind.wrap IntKind.u64 (Int.tmod (IntKind.wrap IntKind.u64 ((0 : Int) + Int.fdiv (↑(limb a 3) : Int) (4294967296 : Int))) (↑(litP s) : Int) * (4294967296 : Int)) + IntKind.wrap IntKind.u64 (↑(limb a 3 % 18446744073709551616 &&& 4294967295) : Int))) (↑(litP s) : Int) * (4294967296 : Int)) + Int.fdiv (↑(limb a 2) : Int) (4294967296 : Int))) (↑(litP s) : Int) * (4294967296 : Int)) + IntKind.wrap IntKind.u64 (↑(limb a 2 % 18446744073709551616 &&& 4294967295) : Int))) (↑(litP s) : Int) * (4294967296 : Int)) + Int.fdiv (↑(limb a 1) : Int) (4294967296 : Int))) (↑(litP s) : Int) * (4294967296 : Int)) + IntKind.wrap IntKind.u64 (↑(limb a 1 % 18446744073709551616 &&& 4294967295) : Int))) (↑(litP s) : Int) * (4294967296 : Int)) + Int.fdiv (↑(limb a 0) : Int) (4294967296 : Int))) (↑(litP s) : Int) * (4294967296 : Int)) + IntKind.wrap IntKind.u64 (↑(limb a 0 % 18446744073709551616 &&& 4294967295) : Int))) (↑(litP s) : Int))), SV.v (vu64 (0 : Int)), SV.v (vu64 (0 : Int)), SV.v (vu64 (0 : Int))]) [] else (∀ (M : Mem), 0 + 4 ≤ 4) ∧ bif !fE s == (0 : Int) then (∀ (M : Mem), 4 ≤ 4) ∧ R (SV.agg [SV.v (vu64 (0 : Int)), SV.v (vu64 (0 : Int)), SV.v (vu64 (0 : Int)), SV.v (vu64 (0 : Int))]) [] else K [It.at [0, 0, 1, 1, 1, 1], It.blk 2, It.at [1, 1, 1, 1, 1]] (St.mk [(3, SV.p 0 0), (4, SV.p 1 0), (8, SV.p 2 0)] [HO.cells [SV.v (vu64 (↑(limb a 0) : Int)), SV.v (vu64 (↑(limb a 1) : Int)), SV.v (vu64 (↑(limb a 2) : Int)), SV.v (vu64 (↑(limb a 3) : Int))] 41, HO.cells [SV.v (vu64 (0 : Int)), SV.v (vu64 (0 : Int)), SV.v (vu64 (0 : Int)), SV.v (vu64 (0 : Int))] 41, HO.cells [SV.v (vu64 (↑(limb (fP s) 0) : Int)), SV.v (vu64 (↑(limb (fP s) 1) : Int)), SV.v (vu64 (↑(limb (fP s) 2) : Int)), SV.v (vu64 (↑(limb (fP s) 3) : Int))] 41])) := by kernel_rfl
theorem roL (a P M : Nat) (K : List It → St → Prop) (R : SV → List HO → Prop) : W (xwp Try.prog X K39 [] 60 (fxOf Try.f69 [] [⟨[0,0,1,1,1,1], [3,4,8], []⟩]) [] (.at [0,0,0,1,1,1,1] :: .rnd [0,0,0,1,1,1,1] M :: [.blk 2, .at [1,1,1,1,1]]) ⟨[(3, .p 0 0), (4, .p 1 0), (8, .p 2 0)], [.cells [.v (.int .u64 (limb a 0 : Nat)), .v (.int .u64 (limb a 1 : Nat)), .v (.int .u64 (limb a 2 : Nat)), .v (.int .u64 (limb a 3 : Nat))] 41, .cells [.v (.int .u64 0), .v (.int .u64 0), .v (.int .u64 0), .v (.int .u64 0)] 41, .cells [.v (.int .u64 (limb P 0 : Nat)), .v (.int .u64 (limb P 1 : Nat)), .v (.int .u64 (limb P 2 : Nat)), .v (.int .u64 (limb P 3 : Nat))] 41]⟩ K R) = W (c2C (eI a) (eI P) fun (a_1 b : Nat) => bif !decide (a_1 < b) then c2C (eI a) (eI P) fun (a b : Nat) => (∀ (M : Mem), 0 + 4 ≤ 4) ∧ K [It.rnd [0, 0, 0, 1, 1, 1, 1] M, It.blk 2, It.at [1, 1, 1, 1, 1]] (St.mk [(3, SV.p 0 0), (4, SV.p 1 0), (8, SV.p 2 0)] [HO.cells [SV.v (vu64 (↑(limb (wsub a b) 0) : Int)), SV.v (vu64 (↑(limb (wsub a b) 1) : Int)), SV.v (vu64 (↑(limb (wsub a b) 2) : Int)), SV.v (vu64 (↑(limb (wsub a b) 3) : Int))] 41, HO.cells [SV.v (vu64 (0 : Int)), SV.v (vu64 (0 : Int)), SV.v (vu64 (0 : Int)), SV.v (vu64 (0 : Int))] 41, HO.cells [SV.v (vu64 (↑(limb P 0) : Int)), SV.v (vu64 (↑(limb P 1) : Int)), SV.v (vu64 (↑(limb P 2) : Int)), SV.v (vu64 (↑(limb P 3) : Int))] 41]) else (∀ (M : Mem), 0 + 4 ≤ 4) ∧ R ((eS a)) []) := by kernel_rfl
theorem ro_loop (P : Nat) (hP : P < top) (Q : SV → List HO → Prop) : ∀ (n a : Nat), a < top → a < (n + 1) * P → Q (eS (fR P a)) [] → FOk Try.prog Try.f69 Q (.rnd [0,0,0,1,1,1,1] (n + 1) :: [.blk 2, .at [1,1,1,1,1]]) ⟨[(3, .p 0 0), (4, .p 1 0), (8, .p 2 0)], [.cells [.v (.int .u64 (limb a 0 : Nat)), .v (.int .u64 (limb a 1 : Nat)), .v (.int .u64 (limb a 2 : Nat)), .v (.int .u64 (limb a 3 : Nat))] 41, .cells [.v (.int .u64 0), .v (.int .u64 0), .v (.int .u64 0), .v (.int .u64 0)] 41, .cells [.v (.int .u64 (limb P 0 : Nat)), .v (.int .u64 (limb P 1 : Nat)), .v (.int .u64 (limb P 2 : Nat)), .v (.int .u64 (limb P 3 : Nat))] 41]⟩
  | 0, a, ha, hn, hq => by
    refine FOk.rnd (run_sound hm 60 ((roL a P 0 _ _).mpr ⟨?_⟩))
    rw [fR_eq, Nat.mod_eq_of_lt (by omega)] at hq
    refine c2C_mk a P ha hP ?_
    rw [decide_eq_true (by omega : a < P)]
    exact And.intro (fun _ => by omega) hq
  | n + 1, a, ha, hn, hq => by
    refine FOk.rnd (run_sound hm 60 ((roL a P (n + 1) _ _).mpr ⟨?_⟩))
    refine c2C_mk a P ha hP ?_
    by_cases h : a < P
    · rw [fR_eq, Nat.mod_eq_of_lt h] at hq
      rw [decide_eq_true h]
      exact And.intro (fun _ => by omega) hq
    · rw [decide_eq_false h]
      refine c2C_mk a P ha hP (And.intro (fun _ => by omega) ?_)
      rw [wsub_limb a P (by omega) 0 (by omega), wsub_limb a P (by omega) 1 (by omega), wsub_limb a P (by omega) 2 (by omega), wsub_limb a P (by omega) 3 (by omega)]
      refine ro_loop P hP Q n (a - P) (by omega) ?_ ?_
      · rw [Nat.add_mul (n + 1) 1 P, Nat.one_mul] at hn; omega
      · rw [fR_eq, ← Nat.mod_eq_sub_mod (by omega), ← fR_eq]; exact hq
theorem bRo : Try.f69.body.isSome = true := by kernel_rfl
theorem nRo (s : Int) (a : Nat) : Nat.ble [SV.v (.int .i64 s), eS a].length Try.f69.ntmps = true := by kernel_rfl
theorem ro_ok (s : Int) (a : Nat) (ha : a < top) (Q : SV → List HO → Prop) (hq : Q (eS (fO s a)) []) : FnOk Try.prog 69 [.v (.int .i64 s), eS a] [] Q := by
  have hl := litP_le s
  have lit : s = 0 ∨ s = 1 → Q (.agg [.v (.int .u64 ((a % litP s : Nat) : Int)), .v (.int .u64 0), .v (.int .u64 0), .v (.int .u64 0)]) [] := fun h => by
    rw [fO, if_neg (by rw [← litP_fP h]; omega), ← litP_fP h, fR_eq] at hq
    have := Nat.mod_lt a (show 0 < litP s by omega)
    obtain ⟨e0, e1, e2, e3⟩ := limb_small (a % litP s) (by omega)
    rw [eS, e0, e1, e2, e3] at hq
    exact hq
  refine fn_of_ok Try.func69 bRo ?_ ?_
  · exact nRo s a
  refine run_sound hm 60 ((roS s a _ _).mpr ⟨?_⟩)
  simp only [cond_beq, cond_not, of_all (litP s) a hl.2 (by omega) ha, forall_const]
  refine ite_intro (fun h => ?_) (fun h0 => ite_intro (fun h => ?_) (fun h1 => ?_))
  · repeat' (first | refine And.intro ?_ ?_)
    all_goals first
      | exact lit (.inl h)
      | omega
  · repeat' (first | refine And.intro ?_ ?_)
    all_goals first
      | exact lit (.inr h)
      | omega
  · refine And.intro (by omega) (ite_intro (fun h => ?_) (fun h => And.intro (by omega) ?_))
    · rw [fE_zero] at h
      rw [fO, if_neg h] at hq
      have h4 : fP s < top ∧ top ≤ 4 * fP s := by
        unfold fP at h ⊢
        rw [if_neg h0, if_neg h1] at h ⊢
        simp only [top]
        split at h
        · rename_i e; rw [if_pos e]; omega
        · rename_i e; rw [if_neg e]; split at h
          · rename_i e; rw [if_pos e]; omega
          · exact absurd rfl h
      exact FOk.loop 4 (by kernel_rfl) (ro_loop (fP s) h4.1 Q 3 a ha (by omega) hq)
    · have h : fP s = 0 := by
        by_cases e : fP s = 0
        · exact e
        · exact absurd ((fE_zero s).2 e) h
      rw [fO, if_pos h, eS_zero] at hq
      exact hq
noncomputable def gRo : List SV → List HO → Option ((SV → List HO → Prop) → Prop)
  | [.v (.int .i64 s), .agg [.v (.int .u64 a0), .v (.int .u64 a1), .v (.int .u64 a2), .v (.int .u64 a3)]], [] => some fun Q => c1C [a0, a1, a2, a3] fun a => Q (eS (fO s a)) []
  | _, _ => none
theorem gRo_ok (args : List SV) (h : List HO) (tr : (SV → List HO → Prop) → Prop) (Q : SV → List HO → Prop) (hc : gRo args h = some tr) (ht : tr Q) : FnOk Try.prog 69 args h Q := by
  unfold gRo at hc
  split at hc
  · rename_i s a0 a1 a2 a3
    simp only [Option.some.injEq] at hc
    subst hc
    obtain ⟨a, e1, ha, hq⟩ := ht.h
    simp only [List.cons.injEq, and_true] at e1
    obtain ⟨rfl, rfl, rfl, rfl⟩ := e1
    exact ro_ok s a ha Q hq
  · cases hc
noncomputable def K40 : Con Try.prog := K39.add 69 gRo gRo_ok
end Go.Proofs.Ytpghmnpbfaichaa
/- The document's sums and products in the fields. -/
namespace Go.Pl
open Go.Sx
theorem fO_top (s : Int) (a : Nat) : fO s a < top := by
  rw [fO]
  rcases fP_top s with h | h
  · rw [if_pos h]; exact top0
  · rw [if_neg (by omega)]; exact (fR_top h a).1
theorem small_sum {p : Nat} (hp : 2 < p) (hs : p ≤ 16521217) (a b : Nat) : SV.agg [SV.v (vu64 (Int.tmod (IntKind.wrap IntKind.u64 ((↑(limb (fR p a) 0) : Int) + (↑(limb (fR p b) 0) : Int))) (p : Int))), SV.v (vu64 (0 : Int)), SV.v (vu64 (0 : Int)), SV.v (vu64 (0 : Int))] = eS (fA p a b) := by
  have h1 := fR_lt' p a (by omega)
  have h2 := fR_lt' p b (by omega)
  have h3 := fA_lt hp a b
  obtain ⟨l0, l1, l2, l3⟩ := limb_small (fA p a b) (by omega)
  rw [(limb_small (fR p a) (by omega)).1, (limb_small (fR p b) (by omega)).1, addNN, wrapN _ (by omega), eS, l0, l1, l2, l3]
  rw [show Int.tmod ((fR p a + fR p b : Nat) : Int) (p : Int) = ((( fR p a + fR p b) % p : Nat) : Int) from rfl, fA_eq, fR_eq, fR_eq, ← Nat.add_mod]
  rfl
/-- A bit of a number. -/
theorem bit_limb (b i : Nat) (hi : i < 256) : (IntKind.wrap IntKind.u64 (↑(Int.toNat (Int.fdiv (↑(limb b (i / 64)) : Int) ((2 : Int) ^ if i % 64 % 18446744073709551616 ≤ 64 then i % 64 % 18446744073709551616 else 64) % (18446744073709551616 : Int)) &&& 1) : Int) == (1 : Int)) = decide (b / 2 ^ i % 2 = 1) := by
  have hk : i % 64 < 64 := Nat.mod_lt _ (by omega)
  rw [Nat.mod_eq_of_lt (show i % 64 < 18446744073709551616 by omega), if_pos (by omega)]
  have e1 : Int.fdiv (↑(limb b (i / 64)) : Int) ((2 : Int) ^ (i % 64)) = ((limb b (i / 64) / 2 ^ (i % 64) : Nat) : Int) := by
    rw [show ((2 : Int) ^ (i % 64)) = ((2 ^ (i % 64) : Nat) : Int) by norm_cast]
    exact Int.fdiv_eq_ediv_of_nonneg _ (Int.natCast_nonneg _)
  rw [e1]
  have hl := limb_lt b (i / 64)
  have hle : limb b (i / 64) / 2 ^ (i % 64) ≤ limb b (i / 64) := Nat.div_le_self _ _
  rw [show ∀ y : Nat, y < 18446744073709551616 → Int.toNat ((y : Int) % (18446744073709551616 : Int)) = y from fun y hy => by omega]
  rotate_left
  · exact Nat.lt_of_le_of_lt hle hl
  rw [show ∀ x : Nat, x &&& 1 = x % 2 from fun x => Nat.and_one_is_mod x]
  rw [wrapN _ (by omega)]
  have key : limb b (i / 64) / 2 ^ (i % 64) % 2 = b / 2 ^ i % 2 := by
    have h2 : (18446744073709551616 : Nat) = 2 ^ 64 := by decide
    rw [limb, hide_eq, h2, ← Nat.pow_mul]
    have t := Nat.testBit_mod_two_pow (b / 2 ^ (64 * (i / 64))) 64 (i % 64)
    rw [decide_eq_true hk, Bool.true_and, Nat.testBit_div_two_pow, Nat.testBit_eq_decide_div_mod_eq, Nat.testBit_eq_decide_div_mod_eq, decide_eq_decide] at t
    rw [show i % 64 + 64 * (i / 64) = i by omega] at t
    omega
  rw [key, Bool.eq_iff_iff, beq_iff_eq, decide_eq_true_iff]
  omega
theorem half_step (b i : Nat) : b / 2 ^ i = 2 * (b / 2 ^ (i + 1)) + b / 2 ^ i % 2 := by
  rw [Nat.pow_succ, ← Nat.div_div_eq_div_mul]; omega
theorem dbl_mod (P x a : Nat) : (2 * (x * a % P)) % P = 2 * x * a % P := by
  rw [Nat.mul_mod_mod, Nat.mul_assoc]
theorem inc_mod (P x a : Nat) : (2 * x * a % P + a) % P = (2 * x + 1) * a % P := by
  rw [Nat.mod_add_mod, Nat.add_mul (2 * x) 1 a, Nat.one_mul]
theorem red1 (P x : Nat) (h : x < 2 * P) : (x < P → x % P = x) ∧ (¬ x < P → x % P = x - P) :=
  ⟨fun h1 => Nat.mod_eq_of_lt h1, fun h1 => by rw [Nat.mod_eq_sub_mod (by omega), Nat.mod_eq_of_lt (by omega)]⟩
theorem idx_limb (b i : Nat) (hi : i < 256) : [SV.v (vu64 (↑(limb b 0) : Int)), SV.v (vu64 (↑(limb b 1) : Int)), SV.v (vu64 (↑(limb b 2) : Int)), SV.v (vu64 (↑(limb b 3) : Int))][0 + Int.toNat (IntKind.wrap IntKind.i64 (Int.tdiv (↑i : Int) (64 : Int))) * 1]? = some (SV.v (vu64 (↑(limb b (i / 64)) : Int))) := by
  rw [show Int.tdiv (i : Int) 64 = ((i / 64 : Nat) : Int) from rfl, wrap_i64 _ (by omega), Int.toNat_natCast, Nat.zero_add, Nat.mul_one]
  have : i / 64 = 0 ∨ i / 64 = 1 ∨ i / 64 = 2 ∨ i / 64 = 3 := by omega
  rcases this with h | h | h | h <;> rw [h] <;> rfl
end Go.Pl
namespace Go.Proofs.Ytpghmnpbfaichaa
open Go.Sx Go.Pl
set_option linter.unusedVariables false
set_option maxRecDepth 100000
theorem rAS (s : Int) (a b : Nat) (K : List It → St → Prop) (R : SV → List HO → Prop) : W (xwp Try.prog X K40 [] 60 (fxOf Try.f72 [] []) [] [.at []] ⟨argsS 0 [.v (.int .i64 s), eS a, eS b], []⟩ K R) = W (bif s == (0 : Int) then c1C (eI a) fun (a : Nat) => (∀ (M : Mem), (0 : Int) ≤ (0 : Int) ∧ (0 : Int) < (4 : Int)) ∧ c1C (eI b) fun (a_1 : Nat) => (∀ (M : Mem), (0 : Int) ≤ (0 : Int) ∧ (0 : Int) < (4 : Int)) ∧ (∀ (M : Mem), ¬(↑(litP s) : Int) = (0 : Int)) ∧ (∀ (M : Mem), 0 + 4 ≤ 4) ∧ R (SV.agg [SV.v (vu64 (Int.tmod (IntKind.wrap IntKind.u64 ((↑(limb (fO s a) 0) : Int) + (↑(limb (fO s a_1) 0) : Int))) (↑(litP s) : Int))), SV.v (vu64 (0 : Int)), SV.v (vu64 (0 : Int)), SV.v (vu64 (0 : Int))]) [] else bif s == (1 : Int) then c1C (eI a) fun (a : Nat) => (∀ (M : Mem), (0 : Int) ≤ (0 : Int) ∧ (0 : Int) < (4 : Int)) ∧ c1C (eI b) fun (a_1 : Nat) => (∀ (M : Mem), (0 : Int) ≤ (0 : Int) ∧ (0 : Int) < (4 : Int)) ∧ (∀ (M : Mem), ¬(↑(litP s) : Int) = (0 : Int)) ∧ (∀ (M : Mem), 0 + 4 ≤ 4) ∧ R (SV.agg [SV.v (vu64 (Int.tmod (IntKind.wrap IntKind.u64 ((↑(limb (fO s a) 0) : Int) + (↑(limb (fO s a_1) 0) : Int))) (↑(litP s) : Int))), SV.v (vu64 (0 : Int)), SV.v (vu64 (0 : Int)), SV.v (vu64 (0 : Int))]) [] else c1C (eI a) fun (a : Nat) => c1C (eI b) fun (a_1 : Nat) => c2C (eI (fO s a)) (eI (fO s a_1)) fun (a b : Nat) => c1C (eI (wadd a b)) fun (a : Nat) => (∀ (M : Mem), 0 + 4 ≤ 4) ∧ R ((eS (fO s a))) []) := by kernel_rfl
theorem rNS (s : Int) (a : Nat) (K : List It → St → Prop) (R : SV → List HO → Prop) : W (xwp Try.prog X K40 [] 60 (fxOf Try.f71 [] []) [] [.at []] ⟨argsS 0 [.v (.int .i64 s), eS a], []⟩ K R) = W ((∀ (M : Mem), 0 + 4 ≤ 4) ∧ bif !fE s == (0 : Int) then (∀ (M : Mem), 4 ≤ 4) ∧ R (SV.agg [SV.v (vu64 (0 : Int)), SV.v (vu64 (0 : Int)), SV.v (vu64 (0 : Int)), SV.v (vu64 (0 : Int))]) [] else c1C (eI a) fun (a : Nat) => c2C (eI (fP s)) (eI (fO s a)) fun (a b : Nat) => c1C (eI (wsub a b)) fun (a : Nat) => (∀ (M : Mem), 0 + 4 ≤ 4) ∧ R ((eS (fO s a))) []) := by kernel_rfl
theorem rMS (s : Int) (a b : Nat) (K : List It → St → Prop) (R : SV → List HO → Prop) : W (xwp Try.prog X K40 [] 60 (fxOf Try.f73 [] [⟨[0,1,0,1,1,1,1,1,1,1], [4,5,6,7,9,10], []⟩]) [] [.at []] ⟨argsS 0 [.v (.int .i64 s), eS a, eS b], []⟩ K R) = W (bif s == (0 : Int) then c1C (eI a) fun (a : Nat) => (∀ (M : Mem), (0 : Int) ≤ (0 : Int) ∧ (0 : Int) < (4 : Int)) ∧ c1C (eI b) fun (a_1 : Nat) => (∀ (M : Mem), (0 : Int) ≤ (0 : Int) ∧ (0 : Int) < (4 : Int)) ∧ (∀ (M : Mem), ¬(↑(litP s) : Int) = (0 : Int)) ∧ (∀ (M : Mem), 0 + 4 ≤ 4) ∧ R (SV.agg [SV.v (vu64 (Int.tmod (IntKind.wrap IntKind.u64 ((↑(limb (fO s a) 0) : Int) * (↑(limb (fO s a_1) 0) : Int))) (↑(litP s) : Int))), SV.v (vu64 (0 : Int)), SV.v (vu64 (0 : Int)), SV.v (vu64 (0 : Int))]) [] else bif s == (1 : Int) then c1C (eI a) fun (a : Nat) => (∀ (M : Mem), (0 : Int) ≤ (0 : Int) ∧ (0 : Int) < (4 : Int)) ∧ c1C (eI b) fun (a_1 : Nat) => (∀ (M : Mem), (0 : Int) ≤ (0 : Int) ∧ (0 : Int) < (4 : Int)) ∧ (∀ (M : Mem), ¬(↑(litP s) : Int) = (0 : Int)) ∧ (∀ (M : Mem), 0 + 4 ≤ 4) ∧ R (SV.agg [SV.v (vu64 (Int.tmod (IntKind.wrap IntKind.u64 ((↑(limb (fO s a) 0) : Int) * (↑(limb (fO s a_1) 0) : Int))) (↑(litP s) : Int))), SV.v (vu64 (0 : Int)), SV.v (vu64 (0 : Int)), SV.v (vu64 (0 : Int))]) [] else (∀ (M : Mem), 0 + 4 ≤ 4) ∧ bif !fE s == (0 : Int) then (∀ (M : Mem), 4 ≤ 4) ∧ R (SV.agg [SV.v (vu64 (0 : Int)), SV.v (vu64 (0 : Int)), SV.v (vu64 (0 : Int)), SV.v (vu64 (0 : Int))]) [] else c1C (eI a) fun (a : Nat) => (∀ (M : Mem), 0 + 4 ≤ 4) ∧ c1C (eI b) fun (a_1 : Nat) => (∀ (M : Mem), 0 + 4 ≤ 4) ∧ (∀ (M : Mem), 4 ≤ 4) ∧ K [It.at [0, 1, 0, 1, 1, 1, 1, 1, 1, 1], It.blk 0, It.at [1, 1, 1, 1, 1, 1, 1, 1]] (St.mk [(4, SV.p 0 0), (5, SV.p 1 0), (6, SV.p 2 0), (7, SV.p 3 0), (9, SV.p 4 0), (10, SV.v (vi64 (255 : Int)))] [HO.cells [SV.v (vu64 (↑(limb (fO s a) 0) : Int)), SV.v (vu64 (↑(limb (fO s a) 1) : Int)), SV.v (vu64 (↑(limb (fO s a) 2) : Int)), SV.v (vu64 (↑(limb (fO s a) 3) : Int))] 41, HO.cells [SV.v (vu64 (↑(limb (fO s a_1) 0) : Int)), SV.v (vu64 (↑(limb (fO s a_1) 1) : Int)), SV.v (vu64 (↑(limb (fO s a_1) 2) : Int)), SV.v (vu64 (↑(limb (fO s a_1) 3) : Int))] 41, HO.cells [SV.v (vu64 (0 : Int)), SV.v (vu64 (0 : Int)), SV.v (vu64 (0 : Int)), SV.v (vu64 (0 : Int))] 41, HO.cells [SV.v (vu64 (↑(limb (fP s) 0) : Int)), SV.v (vu64 (↑(limb (fP s) 1) : Int)), SV.v (vu64 (↑(limb (fP s) 2) : Int)), SV.v (vu64 (↑(limb (fP s) 3) : Int))] 41, HO.cells [SV.v (vu64 (0 : Int)), SV.v (vu64 (0 : Int)), SV.v (vu64 (0 : Int)), SV.v (vu64 (0 : Int))] 41])) := by kernel_rfl
theorem rML (a b P o i j M : Nat) (K : List It → St → Prop) (R : SV → List HO → Prop) : W (xwp Try.prog X K40 [] 60 (fxOf Try.f73 [] [⟨[0,1,0,1,1,1,1,1,1,1], [4,5,6,7,9,10], []⟩]) [.lo 1 (.v (.int .u64 (limb b j : Nat)))] (.at [0,0,1,0,1,1,1,1,1,1,1] :: .rnd [0,0,1,0,1,1,1,1,1,1,1] M :: [.blk 0, .at [1, 1, 1, 1, 1, 1, 1, 1]]) ⟨[(4, .p 0 0), (5, .p 1 0), (6, .p 2 0), (7, .p 3 0), (9, .p 4 0), (10, .v (.int .i64 (i : Int)))], [.cells [.v (.int .u64 (limb a 0 : Nat)), .v (.int .u64 (limb a 1 : Nat)), .v (.int .u64 (limb a 2 : Nat)), .v (.int .u64 (limb a 3 : Nat))] 41, .cells [.v (.int .u64 (limb b 0 : Nat)), .v (.int .u64 (limb b 1 : Nat)), .v (.int .u64 (limb b 2 : Nat)), .v (.int .u64 (limb b 3 : Nat))] 41, .cells [.v (.int .u64 0), .v (.int .u64 0), .v (.int .u64 0), .v (.int .u64 0)] 41, .cells [.v (.int .u64 (limb P 0 : Nat)), .v (.int .u64 (limb P 1 : Nat)), .v (.int .u64 (limb P 2 : Nat)), .v (.int .u64 (limb P 3 : Nat))] 41, .cells [.v (.int .u64 (limb o 0 : Nat)), .v (.int .u64 (limb o 1 : Nat)), .v (.int .u64 (limb o 2 : Nat)), .v (.int .u64 (limb o 3 : Nat))] 41]⟩ K R) = W (c2C (eI o) (eI o) fun (a_1 b_1 : Nat) => (∀ (M : Mem), 0 + 4 ≤ 4) ∧ c2C (eI (wadd a_1 b_1)) (eI P) fun (a_2 b_2 : Nat) => bif !decide (a_2 < b_2) then c2C (eI (wadd a_1 b_1)) (eI P) fun (a_3 b_3 : Nat) => (∀ (M : Mem), 0 + 4 ≤ 4) ∧ (∀ (M : Mem), ¬(64 : Int) = (0 : Int)) ∧ (∀ (M : Mem), (0 : Int) ≤ IntKind.wrap IntKind.i64 (Int.tdiv (↑i : Int) (64 : Int)) ∧ IntKind.wrap IntKind.i64 (Int.tdiv (↑i : Int) (64 : Int)) < (4 : Int)) ∧ (∀ (M : Mem), [SV.v (vu64 (↑(limb b 0) : Int)), SV.v (vu64 (↑(limb b 1) : Int)), SV.v (vu64 (↑(limb b 2) : Int)), SV.v (vu64 (↑(limb b 3) : Int))][0 + Int.toNat (IntKind.wrap IntKind.i64 (Int.tdiv (↑i : Int) (64 : Int))) * 1]? = some (SV.v (vu64 (↑(limb b j) : Int)))) ∧ (∀ (M : Mem), ¬(64 : Int) = (0 : Int)) ∧ (∀ (M : Mem), ¬IntKind.wrap IntKind.u64 (Int.tmod (↑i : Int) (64 : Int)) < (0 : Int)) ∧ bif IntKind.wrap IntKind.u64 (↑(Int.toNat (Int.fdiv (↑(limb b j) : Int) ((2 : Int) ^ if i % 64 % 18446744073709551616 ≤ 64 then i % 64 % 18446744073709551616 else 64) % (18446744073709551616 : Int)) &&& 1) : Int) == (1 : Int) then c2C (eI (wsub a_3 b_3)) (eI a) fun (a_4 b_4 : Nat) => (∀ (M : Mem), 0 + 4 ≤ 4) ∧ c2C (eI (wadd a_4 b_4)) (eI P) fun (a_5 b_5 : Nat) => bif !decide (a_5 < b_5) then c2C (eI (wadd a_4 b_4)) (eI P) fun (a_6 b_6 : Nat) => (∀ (M : Mem), 0 + 4 ≤ 4) ∧ K [It.rnd [0, 0, 1, 0, 1, 1, 1, 1, 1, 1, 1] M, It.blk 0, It.at [1, 1, 1, 1, 1, 1, 1, 1]] (St.mk [(4, SV.p 0 0), (5, SV.p 1 0), (6, SV.p 2 0), (7, SV.p 3 0), (9, SV.p 4 0), (10, SV.v (vi64 (IntKind.wrap IntKind.i64 ((↑i : Int) - (1 : Int)))))] [HO.cells [SV.v (vu64 (↑(limb a 0) : Int)), SV.v (vu64 (↑(limb a 1) : Int)), SV.v (vu64 (↑(limb a 2) : Int)), SV.v (vu64 (↑(limb a 3) : Int))] 41, HO.cells [SV.v (vu64 (↑(limb b 0) : Int)), SV.v (vu64 (↑(limb b 1) : Int)), SV.v (vu64 (↑(limb b 2) : Int)), SV.v (vu64 (↑(limb b 3) : Int))] 41, HO.cells [SV.v (vu64 (0 : Int)), SV.v (vu64 (0 : Int)), SV.v (vu64 (0 : Int)), SV.v (vu64 (0 : Int))] 41, HO.cells [SV.v (vu64 (↑(limb P 0) : Int)), SV.v (vu64 (↑(limb P 1) : Int)), SV.v (vu64 (↑(limb P 2) : Int)), SV.v (vu64 (↑(limb P 3) : Int))] 41, HO.cells [SV.v (vu64 (↑(limb (wsub a_6 b_6) 0) : Int)), SV.v (vu64 (↑(limb (wsub a_6 b_6) 1) : Int)), SV.v (vu64 (↑(limb (wsub a_6 b_6) 2) : Int)), SV.v (vu64 (↑(limb (wsub a_6 b_6) 3) : Int))] 41]) else K [It.rnd [0, 0, 1, 0, 1, 1, 1, 1, 1, 1, 1] M, It.blk 0, It.at [1, 1, 1, 1, 1, 1, 1, 1]] (St.mk [(4, SV.p 0 0), (5, SV.p 1 0), (6, SV.p 2 0), (7, SV.p 3 0), (9, SV.p 4 0), (10, SV.v (vi64 (IntKind.wrap IntKind.i64 ((↑i : Int) - (1 : Int)))))] [HO.cells [SV.v (vu64 (↑(limb a 0) : Int)), SV.v (vu64 (↑(limb a 1) : Int)), SV.v (vu64 (↑(limb a 2) : Int)), SV.v (vu64 (↑(limb a 3) : Int))] 41, HO.cells [SV.v (vu64 (↑(limb b 0) : Int)), SV.v (vu64 (↑(limb b 1) : Int)), SV.v (vu64 (↑(limb b 2) : Int)), SV.v (vu64 (↑(limb b 3) : Int))] 41, HO.cells [SV.v (vu64 (0 : Int)), SV.v (vu64 (0 : Int)), SV.v (vu64 (0 : Int)), SV.v (vu64 (0 : Int))] 41, HO.cells [SV.v (vu64 (↑(limb P 0) : Int)), SV.v (vu64 (↑(limb P 1) : Int)), SV.v (vu64 (↑(limb P 2) : Int)), SV.v (vu64 (↑(limb P 3) : Int))] 41, HO.cells [SV.v (vu64 (↑(limb (wadd a_4 b_4) 0) : Int)), SV.v (vu64 (↑(limb (wadd a_4 b_4) 1) : Int)), SV.v (vu64 (↑(limb (wadd a_4 b_4) 2) : Int)), SV.v (vu64 (↑(limb (wadd a_4 b_4) 3) : Int))] 41]) else K [It.rnd [0, 0, 1, 0, 1, 1, 1, 1, 1, 1, 1] M, It.blk 0, It.at [1, 1, 1, 1, 1, 1, 1, 1]] (St.mk [(4, SV.p 0 0), (5, SV.p 1 0), (6, SV.p 2 0), (7, SV.p 3 0), (9, SV.p 4 0), (10, SV.v (vi64 (IntKind.wrap IntKind.i64 ((↑i : Int) - (1 : Int)))))] [HO.cells [SV.v (vu64 (↑(limb a 0) : Int)), SV.v (vu64 (↑(limb a 1) : Int)), SV.v (vu64 (↑(limb a 2) : Int)), SV.v (vu64 (↑(limb a 3) : Int))] 41, HO.cells [SV.v (vu64 (↑(limb b 0) : Int)), SV.v (vu64 (↑(limb b 1) : Int)), SV.v (vu64 (↑(limb b 2) : Int)), SV.v (vu64 (↑(limb b 3) : Int))] 41, HO.cells [SV.v (vu64 (0 : Int)), SV.v (vu64 (0 : Int)), SV.v (vu64 (0 : Int)), SV.v (vu64 (0 : Int))] 41, HO.cells [SV.v (vu64 (↑(limb P 0) : Int)), SV.v (vu64 (↑(limb P 1) : Int)), SV.v (vu64 (↑(limb P 2) : Int)), SV.v (vu64 (↑(limb P 3) : Int))] 41, HO.cells [SV.v (vu64 (↑(limb (wsub a_3 b_3) 0) : Int)), SV.v (vu64 (↑(limb (wsub a_3 b_3) 1) : Int)), SV.v (vu64 (↑(limb (wsub a_3 b_3) 2) : Int)), SV.v (vu64 (↑(limb (wsub a_3 b_3) 3) : Int))] 41]) else (∀ (M : Mem), ¬(64 : Int) = (0 : Int)) ∧ (∀ (M : Mem), (0 : Int) ≤ IntKind.wrap IntKind.i64 (Int.tdiv (↑i : Int) (64 : Int)) ∧ IntKind.wrap IntKind.i64 (Int.tdiv (↑i : Int) (64 : Int)) < (4 : Int)) ∧ (∀ (M : Mem), [SV.v (vu64 (↑(limb b 0) : Int)), SV.v (vu64 (↑(limb b 1) : Int)), SV.v (vu64 (↑(limb b 2) : Int)), SV.v (vu64 (↑(limb b 3) : Int))][0 + Int.toNat (IntKind.wrap IntKind.i64 (Int.tdiv (↑i : Int) (64 : Int))) * 1]? = some (SV.v (vu64 (↑(limb b j) : Int)))) ∧ (∀ (M : Mem), ¬(64 : Int) = (0 : Int)) ∧ (∀ (M : Mem), ¬IntKind.wrap IntKind.u64 (Int.tmod (↑i : Int) (64 : Int)) < (0 : Int)) ∧ bif IntKind.wrap IntKind.u64 (↑(Int.toNat (Int.fdiv (↑(limb b j) : Int) ((2 : Int) ^ if i % 64 % 18446744073709551616 ≤ 64 then i % 64 % 18446744073709551616 else 64) % (18446744073709551616 : Int)) &&& 1) : Int) == (1 : Int) then c2C (eI (wadd a_1 b_1)) (eI a) fun (a_3 b_3 : Nat) => (∀ (M : Mem), 0 + 4 ≤ 4) ∧ c2C (eI (wadd a_3 b_3)) (eI P) fun (a_4 b_4 : Nat) => bif !decide (a_4 < b_4) then c2C (eI (wadd a_3 b_3)) (eI P) fun (a_5 b_5 : Nat) => (∀ (M : Mem), 0 + 4 ≤ 4) ∧ K [It.rnd [0, 0, 1, 0, 1, 1, 1, 1, 1, 1, 1] M, It.blk 0, It.at [1, 1, 1, 1, 1, 1, 1, 1]] (St.mk [(4, SV.p 0 0), (5, SV.p 1 0), (6, SV.p 2 0), (7, SV.p 3 0), (9, SV.p 4 0), (10, SV.v (vi64 (IntKind.wrap IntKind.i64 ((↑i : Int) - (1 : Int)))))] [HO.cells [SV.v (vu64 (↑(limb a 0) : Int)), SV.v (vu64 (↑(limb a 1) : Int)), SV.v (vu64 (↑(limb a 2) : Int)), SV.v (vu64 (↑(limb a 3) : Int))] 41, HO.cells [SV.v (vu64 (↑(limb b 0) : Int)), SV.v (vu64 (↑(limb b 1) : Int)), SV.v (vu64 (↑(limb b 2) : Int)), SV.v (vu64 (↑(limb b 3) : Int))] 41, HO.cells [SV.v (vu64 (0 : Int)), SV.v (vu64 (0 : Int)), SV.v (vu64 (0 : Int)), SV.v (vu64 (0 : Int))] 41, HO.cells [SV.v (vu64 (↑(limb P 0) : Int)), SV.v (vu64 (↑(limb P 1) : Int)), SV.v (vu64 (↑(limb P 2) : Int)), SV.v (vu64 (↑(limb P 3) : Int))] 41, HO.cells [SV.v (vu64 (↑(limb (wsub a_5 b_5) 0) : Int)), SV.v (vu64 (↑(limb (wsub a_5 b_5) 1) : Int)), SV.v (vu64 (↑(limb (wsub a_5 b_5) 2) : Int)), SV.v (vu64 (↑(limb (wsub a_5 b_5) 3) : Int))] 41]) else K [It.rnd [0, 0, 1, 0, 1, 1, 1, 1, 1, 1, 1] M, It.blk 0, It.at [1, 1, 1, 1, 1, 1, 1, 1]] (St.mk [(4, SV.p 0 0), (5, SV.p 1 0), (6, SV.p 2 0), (7, SV.p 3 0), (9, SV.p 4 0), (10, SV.v (vi64 (IntKind.wrap IntKind.i64 ((↑i : Int) - (1 : Int)))))] [HO.cells [SV.v (vu64 (↑(limb a 0) : Int)), SV.v (vu64 (↑(limb a 1) : Int)), SV.v (vu64 (↑(limb a 2) : Int)), SV.v (vu64 (↑(limb a 3) : Int))] 41, HO.cells [SV.v (vu64 (↑(limb b 0) : Int)), SV.v (vu64 (↑(limb b 1) : Int)), SV.v (vu64 (↑(limb b 2) : Int)), SV.v (vu64 (↑(limb b 3) : Int))] 41, HO.cells [SV.v (vu64 (0 : Int)), SV.v (vu64 (0 : Int)), SV.v (vu64 (0 : Int)), SV.v (vu64 (0 : Int))] 41, HO.cells [SV.v (vu64 (↑(limb P 0) : Int)), SV.v (vu64 (↑(limb P 1) : Int)), SV.v (vu64 (↑(limb P 2) : Int)), SV.v (vu64 (↑(limb P 3) : Int))] 41, HO.cells [SV.v (vu64 (↑(limb (wadd a_3 b_3) 0) : Int)), SV.v (vu64 (↑(limb (wadd a_3 b_3) 1) : Int)), SV.v (vu64 (↑(limb (wadd a_3 b_3) 2) : Int)), SV.v (vu64 (↑(limb (wadd a_3 b_3) 3) : Int))] 41]) else K [It.rnd [0, 0, 1, 0, 1, 1, 1, 1, 1, 1, 1] M, It.blk 0, It.at [1, 1, 1, 1, 1, 1, 1, 1]] (St.mk [(4, SV.p 0 0), (5, SV.p 1 0), (6, SV.p 2 0), (7, SV.p 3 0), (9, SV.p 4 0), (10, SV.v (vi64 (IntKind.wrap IntKind.i64 ((↑i : Int) - (1 : Int)))))] [HO.cells [SV.v (vu64 (↑(limb a 0) : Int)), SV.v (vu64 (↑(limb a 1) : Int)), SV.v (vu64 (↑(limb a 2) : Int)), SV.v (vu64 (↑(limb a 3) : Int))] 41, HO.cells [SV.v (vu64 (↑(limb b 0) : Int)), SV.v (vu64 (↑(limb b 1) : Int)), SV.v (vu64 (↑(limb b 2) : Int)), SV.v (vu64 (↑(limb b 3) : Int))] 41, HO.cells [SV.v (vu64 (0 : Int)), SV.v (vu64 (0 : Int)), SV.v (vu64 (0 : Int)), SV.v (vu64 (0 : Int))] 41, HO.cells [SV.v (vu64 (↑(limb P 0) : Int)), SV.v (vu64 (↑(limb P 1) : Int)), SV.v (vu64 (↑(limb P 2) : Int)), SV.v (vu64 (↑(limb P 3) : Int))] 41, HO.cells [SV.v (vu64 (↑(limb (wadd a_1 b_1) 0) : Int)), SV.v (vu64 (↑(limb (wadd a_1 b_1) 1) : Int)), SV.v (vu64 (↑(limb (wadd a_1 b_1) 2) : Int)), SV.v (vu64 (↑(limb (wadd a_1 b_1) 3) : Int))] 41])) := by kernel_rfl
theorem rME (a b P o M : Nat) (K : List It → St → Prop) (R : SV → List HO → Prop) : W (xwp Try.prog X K40 [] 60 (fxOf Try.f73 [] [⟨[0,1,0,1,1,1,1,1,1,1], [4,5,6,7,9,10], []⟩]) [] (.at [0,0,1,0,1,1,1,1,1,1,1] :: .rnd [0,0,1,0,1,1,1,1,1,1,1] M :: [.blk 0, .at [1, 1, 1, 1, 1, 1, 1, 1]]) ⟨[(4, .p 0 0), (5, .p 1 0), (6, .p 2 0), (7, .p 3 0), (9, .p 4 0), (10, .v (.int .i64 (-1)))], [.cells [.v (.int .u64 (limb a 0 : Nat)), .v (.int .u64 (limb a 1 : Nat)), .v (.int .u64 (limb a 2 : Nat)), .v (.int .u64 (limb a 3 : Nat))] 41, .cells [.v (.int .u64 (limb b 0 : Nat)), .v (.int .u64 (limb b 1 : Nat)), .v (.int .u64 (limb b 2 : Nat)), .v (.int .u64 (limb b 3 : Nat))] 41, .cells [.v (.int .u64 0), .v (.int .u64 0), .v (.int .u64 0), .v (.int .u64 0)] 41, .cells [.v (.int .u64 (limb P 0 : Nat)), .v (.int .u64 (limb P 1 : Nat)), .v (.int .u64 (limb P 2 : Nat)), .v (.int .u64 (limb P 3 : Nat))] 41, .cells [.v (.int .u64 (limb o 0 : Nat)), .v (.int .u64 (limb o 1 : Nat)), .v (.int .u64 (limb o 2 : Nat)), .v (.int .u64 (limb o 3 : Nat))] 41]⟩ K R) = W ((∀ (M : Mem), 0 + 4 ≤ 4) ∧ R ((eS o)) []) := by kernel_rfl
theorem bRA : Try.f72.body.isSome = true := by kernel_rfl
theorem nRA (s : Int) (a b : Nat) : Nat.ble [SV.v (.int .i64 s), eS a, eS b].length Try.f72.ntmps = true := by kernel_rfl
theorem rA_ok (s : Int) (a b : Nat) (ha : a < top) (hb : b < top) (Q : SV → List HO → Prop) (hq : Q (eS (fAd s a b)) []) : FnOk Try.prog 72 [.v (.int .i64 s), eS a, eS b] [] Q := by
  have hl := litP_le s
  have lit : s = 0 ∨ s = 1 → Q (SV.agg [SV.v (vu64 (Int.tmod (IntKind.wrap IntKind.u64 ((↑(limb (fO s a) 0) : Int) + (↑(limb (fO s b) 0) : Int))) (↑(litP s) : Int))), SV.v (vu64 (0 : Int)), SV.v (vu64 (0 : Int)), SV.v (vu64 (0 : Int))]) [] := fun h => by
    have e := litP_fP h
    rw [fAd, if_neg (by omega), ← e, ← small_sum (by omega) hl.2] at hq
    rw [fO, if_neg (by omega), fO, if_neg (by omega), ← e]
    exact hq
  refine fn_of_ok Try.func72 bRA ?_ ?_
  · exact nRA s a b
  refine run_sound hm 60 ((rAS s a b _ _).mpr ⟨?_⟩)
  simp only [cond_beq]
  refine ite_intro (fun h => ?_) (fun h0 => ite_intro (fun h => ?_) (fun h1 => ?_))
  · exact c1C_mk a ha (And.intro (fun _ => by omega) (c1C_mk b hb (And.intro (fun _ => by omega) (And.intro (fun _ => by omega) (And.intro (fun _ => by omega) (lit (.inl h)))))))
  · exact c1C_mk a ha (And.intro (fun _ => by omega) (c1C_mk b hb (And.intro (fun _ => by omega) (And.intro (fun _ => by omega) (And.intro (fun _ => by omega) (lit (.inr h)))))))
  · have e : fO s (wadd (fO s a) (fO s b)) = fAd s a b ∧ wadd (fO s a) (fO s b) < top := by
      rcases fP_top s with h | h
      · rw [fO, if_pos h, fAd, if_pos h, fO, if_pos h, fO, if_pos h, wadd]
        exact ⟨rfl, top0⟩
      · obtain ⟨e1, e2⟩ := na_end (fP s) a b h
        rw [fO, if_neg (by omega), fAd, if_neg (by omega), fO, if_neg (by omega), fO, if_neg (by omega)]
        exact ⟨e1, e2⟩
    rw [← e.1] at hq
    exact c1C_mk a ha (c1C_mk b hb (c2C_mk _ _ (fO_top s a) (fO_top s b) (c1C_mk _ e.2 (And.intro (fun _ => by omega) hq))))
noncomputable def gRA : List SV → List HO → Option ((SV → List HO → Prop) → Prop)
  | [.v (.int .i64 s), .agg [.v (.int .u64 a0), .v (.int .u64 a1), .v (.int .u64 a2), .v (.int .u64 a3)], .agg [.v (.int .u64 b0), .v (.int .u64 b1), .v (.int .u64 b2), .v (.int .u64 b3)]], [] => some fun Q => c2C [a0, a1, a2, a3] [b0, b1, b2, b3] fun a b => Q (eS (fAd s a b)) []
  | _, _ => none
theorem gRA_ok (args : List SV) (h : List HO) (tr : (SV → List HO → Prop) → Prop) (Q : SV → List HO → Prop) (hc : gRA args h = some tr) (ht : tr Q) : FnOk Try.prog 72 args h Q := by
  unfold gRA at hc
  split at hc
  · rename_i s a0 a1 a2 a3 b0 b1 b2 b3
    simp only [Option.some.injEq] at hc
    subst hc
    obtain ⟨a, b, e1, e2, ha, hb, hq⟩ := ht.h
    simp only [List.cons.injEq, and_true] at e1 e2
    obtain ⟨rfl, rfl, rfl, rfl⟩ := e1
    obtain ⟨rfl, rfl, rfl, rfl⟩ := e2
    exact rA_ok s a b ha hb Q hq
  · cases hc

theorem bRN : Try.f71.body.isSome = true := by kernel_rfl
theorem nRN (s : Int) (a : Nat) : Nat.ble [SV.v (.int .i64 s), eS a].length Try.f71.ntmps = true := by kernel_rfl
theorem rN_ok (s : Int) (a : Nat) (ha : a < top) (Q : SV → List HO → Prop) (hq : Q (eS (fNg s a)) []) : FnOk Try.prog 71 [.v (.int .i64 s), eS a] [] Q := by
  refine fn_of_ok Try.func71 bRN ?_ ?_
  · exact nRN s a
  refine run_sound hm 60 ((rNS s a _ _).mpr ⟨And.intro (fun _ => by omega) ?_⟩)
  rw [cond_not, cond_beq]
  rcases fP_top s with h | h
  · rw [if_neg (by rw [fE_of s h]; omega)]
    rw [fNg, if_pos h, eS_zero] at hq
    exact And.intro (fun _ => by omega) hq
  · rw [if_pos ((fE_zero s).2 (by omega))]
    have la := fR_lt' (fP s) a (by omega)
    have e : fO s (fP s - fO s a) = fNg s a := by
      rw [fO, if_neg (by omega), fO, if_neg (by omega), fNg, if_neg (by omega), fN_eq, fR_eq, fR_eq]
    rw [← e] at hq
    refine c1C_mk a ha (c2C_mk (fP s) _ (by omega) (fO_top s a) ?_)
    have hle : fO s a ≤ fP s := by rw [fO, if_neg (by omega)]; omega
    rw [eI_wsub _ _ hle]
    exact c1C_mk _ (by omega) (And.intro (fun _ => by omega) hq)
noncomputable def gRN : List SV → List HO → Option ((SV → List HO → Prop) → Prop)
  | [.v (.int .i64 s), .agg [.v (.int .u64 a0), .v (.int .u64 a1), .v (.int .u64 a2), .v (.int .u64 a3)]], [] => some fun Q => c1C [a0, a1, a2, a3] fun a => Q (eS (fNg s a)) []
  | _, _ => none
theorem gRN_ok (args : List SV) (h : List HO) (tr : (SV → List HO → Prop) → Prop) (Q : SV → List HO → Prop) (hc : gRN args h = some tr) (ht : tr Q) : FnOk Try.prog 71 args h Q := by
  unfold gRN at hc
  split at hc
  · rename_i s a0 a1 a2 a3
    simp only [Option.some.injEq] at hc
    subst hc
    obtain ⟨a, e1, ha, hq⟩ := ht.h
    simp only [List.cons.injEq, and_true] at e1
    obtain ⟨rfl, rfl, rfl, rfl⟩ := e1
    exact rN_ok s a ha Q hq
  · cases hc

theorem limbs_wsub (a b : Nat) (h : b ≤ a) : limb (wsub a b) 0 = limb (a - b) 0 ∧ limb (wsub a b) 1 = limb (a - b) 1 ∧ limb (wsub a b) 2 = limb (a - b) 2 ∧ limb (wsub a b) 3 = limb (a - b) 3 := ⟨wsub_limb a b h 0 (by omega), wsub_limb a b h 1 (by omega), wsub_limb a b h 2 (by omega), wsub_limb a b h 3 (by omega)⟩
theorem rM_loop (a b P : Nat) (ha : a < P) (hP : 2 * P < top) (Q : SV → List HO → Prop) (hq : Q (eS (b * a % P)) []) : ∀ (n o : Nat), n ≤ 256 → o = b / 2 ^ n * a % P → FOk Try.prog Try.f73 Q (.rnd [0,0,1,0,1,1,1,1,1,1,1] (n + 1) :: [.blk 0, .at [1, 1, 1, 1, 1, 1, 1, 1]]) ⟨[(4, .p 0 0), (5, .p 1 0), (6, .p 2 0), (7, .p 3 0), (9, .p 4 0), (10, .v (.int .i64 ((n : Int) - 1)))], [.cells [.v (.int .u64 (limb a 0 : Nat)), .v (.int .u64 (limb a 1 : Nat)), .v (.int .u64 (limb a 2 : Nat)), .v (.int .u64 (limb a 3 : Nat))] 41, .cells [.v (.int .u64 (limb b 0 : Nat)), .v (.int .u64 (limb b 1 : Nat)), .v (.int .u64 (limb b 2 : Nat)), .v (.int .u64 (limb b 3 : Nat))] 41, .cells [.v (.int .u64 0), .v (.int .u64 0), .v (.int .u64 0), .v (.int .u64 0)] 41, .cells [.v (.int .u64 (limb P 0 : Nat)), .v (.int .u64 (limb P 1 : Nat)), .v (.int .u64 (limb P 2 : Nat)), .v (.int .u64 (limb P 3 : Nat))] 41, .cells [.v (.int .u64 (limb o 0 : Nat)), .v (.int .u64 (limb o 1 : Nat)), .v (.int .u64 (limb o 2 : Nat)), .v (.int .u64 (limb o 3 : Nat))] 41]⟩
  | 0, o, hn, ho => by
    rw [Nat.pow_zero, Nat.div_one] at ho
    refine FOk.rnd (run_sound hm 60 ((rME a b P o 0 _ _).mpr ⟨And.intro (fun _ => by omega) ?_⟩))
    rw [ho]; exact hq
  | n + 1, o, hn, ho => by
    have hlt : o < P := by rw [ho]; exact Nat.mod_lt _ (by omega)
    rw [show ((n + 1 : Nat) : Int) - 1 = (n : Int) by omega]
    refine FOk.rnd (run_sound hm 60 ((rML a b P o n (n / 64) (n + 1) _ _).mpr ⟨?_⟩))
    rw [bit_limb b n (by omega), idx_limb b n (by omega)]
    have next : ∀ o', o' = b / 2 ^ n * a % P → FOk Try.prog Try.f73 Q (.rnd [0,0,1,0,1,1,1,1,1,1,1] (n + 1) :: [.blk 0, .at [1, 1, 1, 1, 1, 1, 1, 1]]) ⟨[(4, .p 0 0), (5, .p 1 0), (6, .p 2 0), (7, .p 3 0), (9, .p 4 0), (10, .v (.int .i64 (IntKind.wrap IntKind.i64 ((n : Int) - 1))))], [.cells [.v (.int .u64 (limb a 0 : Nat)), .v (.int .u64 (limb a 1 : Nat)), .v (.int .u64 (limb a 2 : Nat)), .v (.int .u64 (limb a 3 : Nat))] 41, .cells [.v (.int .u64 (limb b 0 : Nat)), .v (.int .u64 (limb b 1 : Nat)), .v (.int .u64 (limb b 2 : Nat)), .v (.int .u64 (limb b 3 : Nat))] 41, .cells [.v (.int .u64 0), .v (.int .u64 0), .v (.int .u64 0), .v (.int .u64 0)] 41, .cells [.v (.int .u64 (limb P 0 : Nat)), .v (.int .u64 (limb P 1 : Nat)), .v (.int .u64 (limb P 2 : Nat)), .v (.int .u64 (limb P 3 : Nat))] 41, .cells [.v (.int .u64 (limb o' 0 : Nat)), .v (.int .u64 (limb o' 1 : Nat)), .v (.int .u64 (limb o' 2 : Nat)), .v (.int .u64 (limb o' 3 : Nat))] 41]⟩ := fun o' ho' => by
      rw [wrap_dec _ (by omega)]
      exact rM_loop a b P ha hP Q hq n o' (by omega) ho'
    have hs := half_step b n
    have hb2 : b / 2 ^ n % 2 = 0 ∨ b / 2 ^ n % 2 = 1 := by omega
    have hd : (2 * o) % P = 2 * (b / 2 ^ (n + 1)) * a % P := by rw [ho, dbl_mod]
    obtain ⟨r1, r2⟩ := red1 P (2 * o) (by omega)
    have h2o : wadd o o = 2 * o := by rw [wadd]; omega
    have tdiv0 : ¬ IntKind.wrap IntKind.u64 (Int.tmod (↑n : Int) (64 : Int)) < (0 : Int) := by
      rw [show Int.tmod (n : Int) 64 = ((n % 64 : Nat) : Int) from rfl, wrapN _ (by omega)]; omega
    have tq : 0 ≤ IntKind.wrap IntKind.i64 (Int.tdiv (↑n : Int) (64 : Int)) ∧ IntKind.wrap IntKind.i64 (Int.tdiv (↑n : Int) (64 : Int)) < 4 := by
      rw [show Int.tdiv (n : Int) 64 = ((n / 64 : Nat) : Int) from rfl, wrap_i64 _ (by omega)]; omega
    -- what comes behind the doubling
    have behind : ∀ x : Nat, x < P → x = 2 * (b / 2 ^ (n + 1)) * a % P → ∀ (A B : Prop), (b / 2 ^ n % 2 = 1 → A) → (¬ b / 2 ^ n % 2 = 1 → B) → bif decide (b / 2 ^ n % 2 = 1) then A else B := fun x _ _ A B h1 h2 => by
      rw [cond_dec]; exact ite_intro h1 h2
    refine c2C_mk o o (by omega) (by omega) (And.intro (fun _ => by omega) (c2C_mk (wadd o o) P (by omega) (by omega) ?_))
    rw [cond_not, cond_dec]
    refine ite_intro (fun hb => ?_) (fun hb => ?_)
    · have hx : wadd o o = 2 * (b / 2 ^ (n + 1)) * a % P := by rw [h2o, ← hd, r1 (by omega)]
      have hxl : wadd o o < P := hb
      generalize wadd o o = x at *
      refine And.intro (fun _ => by omega) (And.intro (fun _ => tq) (And.intro (fun _ => rfl) (And.intro (fun _ => by omega) (And.intro (fun _ => tdiv0) ?_))))
      rw [cond_dec]
      refine ite_intro (fun hbit => ?_) (fun hbit => ?_)
      · have hi : (x + a) % P = b / 2 ^ n * a % P := by rw [hx, inc_mod, hs, hbit]
        obtain ⟨s1, s2⟩ := red1 P (x + a) (by omega)
        refine c2C_mk x a (by omega) (by omega) (And.intro (fun _ => by omega) (c2C_mk (wadd x a) P (by rw [wadd]; omega) (by omega) ?_))
        rw [cond_not, cond_dec]
        refine ite_intro (fun hc => ?_) (fun hc => ?_)
        · rw [wadd] at hc ⊢
          exact next _ (by rw [← hi, s1 hc])
        · rw [wadd] at hc ⊢
          refine c2C_mk (x + a) P (by omega) (by omega) (And.intro (fun _ => by omega) ?_)
          rw [(limbs_wsub (x + a) P (by omega)).1, (limbs_wsub (x + a) P (by omega)).2.1, (limbs_wsub (x + a) P (by omega)).2.2.1, (limbs_wsub (x + a) P (by omega)).2.2.2]
          exact next _ (by rw [← hi, s2 hc])
      · exact next _ (by rw [hs, show b / 2 ^ n % 2 = 0 by omega, Nat.add_zero]; exact hx)
    · have hx : wadd o o - P = 2 * (b / 2 ^ (n + 1)) * a % P := by rw [h2o, ← hd, r2 (by omega)]
      have hle : P ≤ wadd o o := by omega
      have hxl : wadd o o - P < P := by omega
      have hw := limbs_wsub (wadd o o) P hle
      refine c2C_mk (wadd o o) P (by omega) (by omega) (And.intro (fun _ => by omega) (And.intro (fun _ => by omega) (And.intro (fun _ => tq) (And.intro (fun _ => rfl) (And.intro (fun _ => by omega) (And.intro (fun _ => tdiv0) ?_))))))
      rw [eI_wsub _ _ hle, hw.1, hw.2.1, hw.2.2.1, hw.2.2.2]
      generalize wadd o o - P = x at *
      rw [cond_dec]
      refine ite_intro (fun hbit => ?_) (fun hbit => ?_)
      · have hi : (x + a) % P = b / 2 ^ n * a % P := by rw [hx, inc_mod, hs, hbit]
        obtain ⟨s1, s2⟩ := red1 P (x + a) (by omega)
        refine c2C_mk x a (by omega) (by omega) (And.intro (fun _ => by omega) (c2C_mk (wadd x a) P (by rw [wadd]; omega) (by omega) ?_))
        rw [cond_not, cond_dec]
        refine ite_intro (fun hc => ?_) (fun hc => ?_)
        · rw [wadd] at hc ⊢
          exact next _ (by rw [← hi, s1 hc])
        · rw [wadd] at hc ⊢
          refine c2C_mk (x + a) P (by omega) (by omega) (And.intro (fun _ => by omega) ?_)
          rw [(limbs_wsub (x + a) P (by omega)).1, (limbs_wsub (x + a) P (by omega)).2.1, (limbs_wsub (x + a) P (by omega)).2.2.1, (limbs_wsub (x + a) P (by omega)).2.2.2]
          exact next _ (by rw [← hi, s2 hc])
      · exact next _ (by rw [hs, show b / 2 ^ n % 2 = 0 by omega, Nat.add_zero]; exact hx)
theorem bRM : Try.f73.body.isSome = true := by kernel_rfl
theorem nRM (s : Int) (a b : Nat) : Nat.ble [SV.v (.int .i64 s), eS a, eS b].length Try.f73.ntmps = true := by kernel_rfl
theorem div_256 (b : Nat) (hb : b < top) : b / 2 ^ 256 = 0 := Nat.div_eq_of_lt hb
theorem rM_ok (s : Int) (a b : Nat) (ha : a < top) (hb : b < top) (Q : SV → List HO → Prop) (hq : Q (eS (fMu s a b)) []) : FnOk Try.prog 73 [.v (.int .i64 s), eS a, eS b] [] Q := by
  have hl := litP_le s
  have lit : s = 0 ∨ s = 1 → Q (SV.agg [SV.v (vu64 (Int.tmod (IntKind.wrap IntKind.u64 ((↑(limb (fO s a) 0) : Int) * (↑(limb (fO s b) 0) : Int))) (↑(litP s) : Int))), SV.v (vu64 (0 : Int)), SV.v (vu64 (0 : Int)), SV.v (vu64 (0 : Int))]) [] := fun h => by
    have e := litP_fP h
    rw [fMu, if_neg (by omega), ← e, ← small_mul (by omega) hl.2] at hq
    rw [fO, if_neg (by omega), fO, if_neg (by omega), ← e]
    exact hq
  refine fn_of_ok Try.func73 bRM ?_ ?_
  · exact nRM s a b
  refine run_sound hm 60 ((rMS s a b _ _).mpr ⟨?_⟩)
  simp only [cond_beq, cond_not]
  refine ite_intro (fun h => ?_) (fun h0 => ite_intro (fun h => ?_) (fun h1 => ?_))
  · exact c1C_mk a ha (And.intro (fun _ => by omega) (c1C_mk b hb (And.intro (fun _ => by omega) (And.intro (fun _ => by omega) (And.intro (fun _ => by omega) (lit (.inl h)))))))
  · exact c1C_mk a ha (And.intro (fun _ => by omega) (c1C_mk b hb (And.intro (fun _ => by omega) (And.intro (fun _ => by omega) (And.intro (fun _ => by omega) (lit (.inr h)))))))
  · refine And.intro (fun _ => by omega) ?_
    rcases fP_top s with h | h
    · rw [if_neg (by rw [fE_of s h]; omega)]
      rw [fMu, if_pos h, eS_zero] at hq
      exact And.intro (fun _ => by omega) hq
    · rw [if_pos ((fE_zero s).2 (by omega))]
      refine c1C_mk a ha (And.intro (fun _ => by omega) (c1C_mk b hb (And.intro (fun _ => by omega) (And.intro (fun _ => by omega) ?_))))
      have la := fR_lt' (fP s) a (by omega)
      have ha' : fO s a < fP s := by rw [fO, if_neg (by omega)]; exact la
      have e : fO s b * fO s a % fP s = fMu s a b := by
        rw [fO, if_neg (by omega), fO, if_neg (by omega), fMu, if_neg (by omega), fM_eq, fR_eq, fR_eq, ← Nat.mul_mod, Nat.mul_comm]
      rw [← e] at hq
      have := rM_loop (fO s a) (fO s b) (fP s) ha' h.2 Q hq 256 0 (by omega) (by rw [div_256 _ (fO_top s b), Nat.zero_mul, Nat.zero_mod])
      simp only [limb_zero] at this
      exact FOk.loop 257 (by kernel_rfl) this
noncomputable def gRM : List SV → List HO → Option ((SV → List HO → Prop) → Prop)
  | [.v (.int .i64 s), .agg [.v (.int .u64 a0), .v (.int .u64 a1), .v (.int .u64 a2), .v (.int .u64 a3)], .agg [.v (.int .u64 b0), .v (.int .u64 b1), .v (.int .u64 b2), .v (.int .u64 b3)]], [] => some fun Q => c2C [a0, a1, a2, a3] [b0, b1, b2, b3] fun a b => Q (eS (fMu s a b)) []
  | _, _ => none
theorem gRM_ok (args : List SV) (h : List HO) (tr : (SV → List HO → Prop) → Prop) (Q : SV → List HO → Prop) (hc : gRM args h = some tr) (ht : tr Q) : FnOk Try.prog 73 args h Q := by
  unfold gRM at hc
  split at hc
  · rename_i s a0 a1 a2 a3 b0 b1 b2 b3
    simp only [Option.some.injEq] at hc
    subst hc
    obtain ⟨a, b, e1, e2, ha, hb, hq⟩ := ht.h
    simp only [List.cons.injEq, and_true] at e1 e2
    obtain ⟨rfl, rfl, rfl, rfl⟩ := e1
    obtain ⟨rfl, rfl, rfl, rfl⟩ := e2
    exact rM_ok s a b ha hb Q hq
  · cases hc
noncomputable def K41 : Con Try.prog := ((K40.add 72 gRA gRA_ok).add 71 gRN gRN_ok).add 73 gRM gRM_ok
end Go.Proofs.Ytpghmnpbfaichaa
/- ExprMemory: the walk. -/
namespace Go.Pl
open Go.Sx
theorem qsN_len : ∀ (l : List Nd) (out : List (Int × Int × Int)), (qsN out l).length ≤ out.length + l.length
  | [], out => by rw [qsN]; exact Nat.le_add_right _ _
  | x :: r, out => by
    rw [qsN]
    split
    · have := qsN_len r (out ++ [(x.op, x.a, x.b)])
      rw [List.length_append] at this
      simp only [List.length_cons, List.length_nil] at this ⊢
      omega
    · have := qsN_len r out
      rw [List.length_cons]
      omega
theorem degrees_len (l : List Nd) : (degrees l).length ≤ l.length := by
  rw [degrees]
  split
  · rw [degsN_length]; simp
  · exact Nat.zero_le _
theorem coneN_len (l : List Nd) (root : Int) : (coneN l root).length ≤ l.length := by
  rw [coneN]
  split
  · rename_i h
    rw [List.length_map]
    refine Nat.le_trans (List.length_filter_le _ _) ?_
    rw [List.length_range]
    omega
  · exact Nat.zero_le _
end Go.Pl
namespace Go.Proofs.Ytpghmnpbfaichaa
open Go.Sx Go.Pl
set_option linter.unusedVariables false
set_option maxRecDepth 100000
theorem emS (l : List Nd) (vs : List Nat) (root : Int) (K : List It → St → Prop) (R : SV → List HO → Prop) : W (xwp Try.prog X K31 [] 60 (fxOf Try.f11 [] [⟨[0,1,0,1,1,1,1,1,1,1], [0,2,6,7,8,9,10,11], []⟩, ⟨[0,1,0,1,1,1,1,1,1,1,1], [0,2,6,7,9,10,12], []⟩, ⟨[0,1,0,1,1,1,1,1,1,1,1,1], [0,2,6,7,10,13], []⟩]) [] [.at []] ⟨argsS 0 [.x 0 [], .x 1 [], .v (.int .i64 root)], [.ext false (.s false 7 l.length (cN l)), .ext false (.s false 4 vs.length (cE vs))]⟩ K R) = W (bif decide ((64 : Int) < (↑(List.length l) : Int)) then R (SV.v (Value.bool true)) [] else ∃ (l_1 : List Nd), List.length l = List.length l_1 ∧ IsC (List.length l) 7 (cN l) (cN l_1) ∧ List.length l_1 ≤ 2513169434916 ∧ ∃ (l_2 : List Nd), List.length l_1 = List.length l_2 ∧ IsC (List.length l_1) 7 (cN l_1) (cN l_2) ∧ List.length l_2 ≤ 4000000000000 ∧ ∃ (l_3 : List Nd), List.length l_1 = List.length l_3 ∧ IsC (List.length l_1) 7 (cN l_1) (cN l_3) ∧ List.length l_3 ≤ 4398046511104 ∧ ∃ (l_4 : List Nd), List.length l_1 = List.length l_4 ∧ IsC (List.length l_1) 7 (cN l_1) (cN l_4) ∧ List.length l_4 ≤ 2513169434916 ∧ K [It.at [0, 1, 0, 1, 1, 1, 1, 1, 1, 1], It.blk 0, It.at [1, 1, 1, 1, 1, 1, 1, 1]] (St.mk [(0, SV.x 0 []), (2, SV.v (vi64 root)), (6, SV.v (Value.bool false)), (7, SV.o 1), (8, SV.o 2), (9, SV.o 3), (10, SV.o 4), (11, SV.v (vi64 (0 : Int)))] [HO.ext false (Cell.s false 7 (List.length l) (cN l)), HO.rowc 43 7 (List.length l_1) (Ct.fn (cN l_1)), HO.rowc 63 3 (List.length (qsN [] l_2)) (Ct.fn (cQ (qsN [] l_2))), HO.rowc 3 1 (List.length (degrees l_3)) (Ct.fn (cI (degrees l_3))), HO.rowc 3 1 (List.length (coneN l_4 root)) (Ct.fn (cI (coneN l_4 root)))])) := by kernel_rfl
theorem emQ (l : List Nd) (root : Int) (cq cd cc : Nat → Nat → Cell) (n nq nd nc k M : Nat) (K : List It → St → Prop) (R : SV → List HO → Prop) : W (xwp Try.prog X K31 [] 60 (fxOf Try.f11 [] [⟨[0,1,0,1,1,1,1,1,1,1], [0,2,6,7,8,9,10,11], []⟩, ⟨[0,1,0,1,1,1,1,1,1,1,1], [0,2,6,7,9,10,12], []⟩, ⟨[0,1,0,1,1,1,1,1,1,1,1,1], [0,2,6,7,10,13], []⟩]) [] (.at [0,0,1,0,1,1,1,1,1,1,1] :: .rnd [0,0,1,0,1,1,1,1,1,1,1] M :: [.blk 0, .at [1,1,1,1,1,1,1,1]]) ⟨[(0, .x 0 []), (2, .v (.int .i64 root)), (6, .v (.bool false)), (7, .o 1), (8, .o 2), (9, .o 3), (10, .o 4), (11, .v (.int .i64 (k : Int)))], [.ext false (.s false 7 n (cN l)), .rowc 43 7 n (.fn (cN l)), .rowc 63 3 nq (.fn cq), .rowc 3 1 nd (.fn cd), .rowc 3 1 nc (.fn cc)]⟩ K R) = W (bif decide ((↑k : Int) < (↑nq : Int)) then (∀ (M : Mem), (0 : Int) ≤ (↑k : Int) ∧ (↑k : Int) < (↑nq : Int)) ∧ (∀ (M : Mem), k < nq) ∧ K [It.rnd [0, 0, 1, 0, 1, 1, 1, 1, 1, 1, 1] M, It.blk 0, It.at [1, 1, 1, 1, 1, 1, 1, 1]] (St.mk [(0, SV.x 0 []), (2, SV.v (vi64 root)), (6, SV.v (Value.bool false)), (7, SV.o 1), (8, SV.o 2), (9, SV.o 3), (10, SV.o 4), (11, SV.v (vi64 (IntKind.wrap IntKind.i64 ((↑k : Int) + (1 : Int)))))] [HO.ext false (Cell.s false 7 n (cN l)), HO.rowc 43 7 n (Ct.fn (cN l)), HO.rowc 63 3 nq (Ct.upd (Ct.fn cq) k 0 [Cell.v (vi64 (9 : Int)), Cell.v (vi64 (0 : Int)), Cell.v (vi64 (0 : Int))]), HO.rowc 3 1 nd (Ct.fn cd), HO.rowc 3 1 nc (Ct.fn cc)]) else K [It.at [0, 1, 0, 1, 1, 1, 1, 1, 1, 1, 1], It.blk 2, It.at [1, 1, 1, 1, 1, 1, 1, 1, 1]] (St.mk [(0, SV.x 0 []), (2, SV.v (vi64 root)), (6, SV.v (Value.bool false)), (7, SV.o 1), (9, SV.o 2), (10, SV.o 3), (12, SV.v (vi64 (0 : Int)))] [HO.ext false (Cell.s false 7 n (cN l)), HO.rowc 43 7 n (Ct.fn (cN l)), HO.rowc 3 1 nd (Ct.fn cd), HO.rowc 3 1 nc (Ct.fn cc)])) := by kernel_rfl
theorem emD (l : List Nd) (root : Int) (cq cd cc : Nat → Nat → Cell) (n nq nd nc k M : Nat) (K : List It → St → Prop) (R : SV → List HO → Prop) : W (xwp Try.prog X K31 [] 60 (fxOf Try.f11 [] [⟨[0,1,0,1,1,1,1,1,1,1], [0,2,6,7,8,9,10,11], []⟩, ⟨[0,1,0,1,1,1,1,1,1,1,1], [0,2,6,7,9,10,12], []⟩, ⟨[0,1,0,1,1,1,1,1,1,1,1,1], [0,2,6,7,10,13], []⟩]) [] (.at [0,0,1,0,1,1,1,1,1,1,1,1] :: .rnd [0,0,1,0,1,1,1,1,1,1,1,1] M :: [.blk 2, .at [1,1,1,1,1,1,1,1,1]]) ⟨[(0, .x 0 []), (2, .v (.int .i64 root)), (6, .v (.bool false)), (7, .o 1), (9, .o 2), (10, .o 3), (12, .v (.int .i64 (k : Int)))], [.ext false (.s false 7 n (cN l)), .rowc 43 7 n (.fn (cN l)), .rowc 3 1 nd (.fn cd), .rowc 3 1 nc (.fn cc)]⟩ K R) = W (bif decide ((↑k : Int) < (↑nd : Int)) then (∀ (M : Mem), (0 : Int) ≤ (↑k : Int) ∧ (↑k : Int) < (↑nd : Int)) ∧ (∀ (M : Mem), k < nd) ∧ K [It.rnd [0, 0, 1, 0, 1, 1, 1, 1, 1, 1, 1, 1] M, It.blk 2, It.at [1, 1, 1, 1, 1, 1, 1, 1, 1]] (St.mk [(0, SV.x 0 []), (2, SV.v (vi64 root)), (6, SV.v (Value.bool false)), (7, SV.o 1), (9, SV.o 2), (10, SV.o 3), (12, SV.v (vi64 (IntKind.wrap IntKind.i64 ((↑k : Int) + (1 : Int)))))] [HO.ext false (Cell.s false 7 n (cN l)), HO.rowc 43 7 n (Ct.fn (cN l)), HO.rowc 3 1 nd (Ct.upd (Ct.fn cd) k 0 [Cell.v (vi64 (-1 : Int))]), HO.rowc 3 1 nc (Ct.fn cc)]) else K [It.at [0, 1, 0, 1, 1, 1, 1, 1, 1, 1, 1, 1], It.blk 4, It.at [1, 1, 1, 1, 1, 1, 1, 1, 1, 1]] (St.mk [(0, SV.x 0 []), (2, SV.v (vi64 root)), (6, SV.v (Value.bool false)), (7, SV.o 1), (10, SV.o 2), (13, SV.v (vi64 (0 : Int)))] [HO.ext false (Cell.s false 7 n (cN l)), HO.rowc 43 7 n (Ct.fn (cN l)), HO.rowc 3 1 nc (Ct.fn cc)])) := by kernel_rfl
theorem emC (l : List Nd) (root : Int) (cq cd cc : Nat → Nat → Cell) (n nq nd nc k M : Nat) (K : List It → St → Prop) (R : SV → List HO → Prop) : W (xwp Try.prog X K31 [] 60 (fxOf Try.f11 [] [⟨[0,1,0,1,1,1,1,1,1,1], [0,2,6,7,8,9,10,11], []⟩, ⟨[0,1,0,1,1,1,1,1,1,1,1], [0,2,6,7,9,10,12], []⟩, ⟨[0,1,0,1,1,1,1,1,1,1,1,1], [0,2,6,7,10,13], []⟩]) [] (.at [0,0,1,0,1,1,1,1,1,1,1,1,1] :: .rnd [0,0,1,0,1,1,1,1,1,1,1,1,1] M :: [.blk 4, .at [1,1,1,1,1,1,1,1,1,1]]) ⟨[(0, .x 0 []), (2, .v (.int .i64 root)), (6, .v (.bool false)), (7, .o 1), (10, .o 2), (13, .v (.int .i64 (k : Int)))], [.ext false (.s false 7 n (cN l)), .rowc 43 7 n (.fn (cN l)), .rowc 3 1 nc (.fn cc)]⟩ K R) = W (bif decide ((↑k : Int) < (↑nc : Int)) then (∀ (M : Mem), (0 : Int) ≤ (↑k : Int) ∧ (↑k : Int) < (↑nc : Int)) ∧ (∀ (M : Mem), k < nc) ∧ K [It.rnd [0, 0, 1, 0, 1, 1, 1, 1, 1, 1, 1, 1, 1] M, It.blk 4, It.at [1, 1, 1, 1, 1, 1, 1, 1, 1, 1]] (St.mk [(0, SV.x 0 []), (2, SV.v (vi64 root)), (6, SV.v (Value.bool false)), (7, SV.o 1), (10, SV.o 2), (13, SV.v (vi64 (IntKind.wrap IntKind.i64 ((↑k : Int) + (1 : Int)))))] [HO.ext false (Cell.s false 7 n (cN l)), HO.rowc 43 7 n (Ct.fn (cN l)), HO.rowc 3 1 nc (Ct.upd (Ct.fn cc) k 0 [Cell.v (vi64 (-1 : Int))])]) else ∃ (l_1 : List Nd), n = List.length l_1 ∧ IsC n 7 (cN l) (cN l_1) ∧ List.length l_1 ≤ 4000000000000 ∧ ∃ (l_2 : List Nd), n = List.length l_2 ∧ IsC n 7 (cN l) (cN l_2) ∧ List.length l_2 ≤ 4000000000000 ∧ ∃ (l_3 : List (Int × Int × Int)), List.length (qsN [] l_1) = List.length l_3 ∧ IsC (List.length (qsN [] l_1)) 3 (cQ (qsN [] l_1)) (cQ l_3) ∧ List.length l_3 ≤ 4398046511104 ∧ ∃ (l2 : List (Int × Int × Int)), List.length (qsN [] l_2) = List.length l2 ∧ IsC (List.length (qsN [] l_2)) 3 (cQ (qsN [] l_2)) (cQ l2) ∧ bif decide (l_3 = l2) then ∃ (l_4 : List Nd), n = List.length l_4 ∧ IsC n 7 (cN l) (cN l_4) ∧ List.length l_4 ≤ 4398046511104 ∧ ∃ (l_5 : List Nd), n = List.length l_5 ∧ IsC n 7 (cN l) (cN l_5) ∧ List.length l_5 ≤ 4000000000000 ∧ ∃ (l_6 : List Int), List.length (degrees l_4) = List.length l_6 ∧ IsC (List.length (degrees l_4)) 1 (cI (degrees l_4)) (cI l_6) ∧ List.length l_6 ≤ 4398046511104 ∧ ∃ (l2 : List Int), List.length (degrees l_5) = List.length l2 ∧ IsC (List.length (degrees l_5)) 1 (cI (degrees l_5)) (cI l2) ∧ bif decide (l_6 = l2) then ∃ (l_7 : List Nd), n = List.length l_7 ∧ IsC n 7 (cN l) (cN l_7) ∧ List.length l_7 ≤ 2513169434916 ∧ ∃ (l_8 : List Nd), n = List.length l_8 ∧ IsC n 7 (cN l) (cN l_8) ∧ List.length l_8 ≤ 4000000000000 ∧ ∃ (l_9 : List Int), List.length (coneN l_7 root) = List.length l_9 ∧ IsC (List.length (coneN l_7 root)) 1 (cI (coneN l_7 root)) (cI l_9) ∧ List.length l_9 ≤ 4398046511104 ∧ ∃ (l2 : List Int), List.length (coneN l_8 root) = List.length l2 ∧ IsC (List.length (coneN l_8 root)) 1 (cI (coneN l_8 root)) (cI l2) ∧ bif decide (l_9 = l2) then ∃ (l_10 : List Nd), n = List.length l_10 ∧ IsC n 7 (cN l) (cN l_10) ∧ List.length l_10 ≤ 4398046511104 ∧ ∃ (l2 : List Nd), n = List.length l2 ∧ IsC n 7 (cN l) (cN l2) ∧ (∀ (x : Nd), x ∈ l_10 → x.4 < top) ∧ (∀ (x : Nd), x ∈ l2 → x.4 < top) ∧ R (SV.v (Value.bool (decide (l_10 = l2)))) [] else R (SV.v (Value.bool false)) [] else R (SV.v (Value.bool false)) [] else R (SV.v (Value.bool false)) []) := by kernel_rfl
theorem em_c (l : List Nd) (hl : l.length ≤ 64) (root : Int) (hv : ∀ x ∈ l, x.v < top) (nc : Nat) (hnc : nc ≤ 64) (Q : SV → List HO → Prop) (hq : Q (.v (.bool true)) []) : ∀ (d k : Nat) (cc : Nat → Nat → Cell), k + d = nc →
    FOk Try.prog Try.f11 Q (.rnd [0,0,1,0,1,1,1,1,1,1,1,1,1] (d + 1) :: [.blk 4, .at [1,1,1,1,1,1,1,1,1,1]]) ⟨[(0, .x 0 []), (2, .v (.int .i64 root)), (6, .v (.bool false)), (7, .o 1), (10, .o 2), (13, .v (.int .i64 (k : Int)))], [.ext false (.s false 7 l.length (cN l)), .rowc 43 7 l.length (.fn (cN l)), .rowc 3 1 nc (.fn cc)]⟩
  | 0, k, cc, hd => by
    refine FOk.rnd (run_sound hm 60 ((emC l root cc cc cc l.length 0 0 nc k 0 _ _).mpr ⟨?_⟩))
    rw [cond_dec, if_neg (by omega)]
    have q := qsN_len l []
    have dg := degrees_len l
    have cn := coneN_len l root
    simp only [List.length_nil] at q
    refine ⟨l, rfl, IsC.refl _ _ _, by omega, l, rfl, IsC.refl _ _ _, by omega, qsN [] l, rfl, IsC.refl _ _ _, by omega, qsN [] l, rfl, IsC.refl _ _ _, ?_⟩
    rw [decide_eq_true rfl]
    refine ⟨l, rfl, IsC.refl _ _ _, by omega, l, rfl, IsC.refl _ _ _, by omega, degrees l, rfl, IsC.refl _ _ _, by omega, degrees l, rfl, IsC.refl _ _ _, ?_⟩
    rw [decide_eq_true rfl]
    refine ⟨l, rfl, IsC.refl _ _ _, by omega, l, rfl, IsC.refl _ _ _, by omega, coneN l root, rfl, IsC.refl _ _ _, by omega, coneN l root, rfl, IsC.refl _ _ _, ?_⟩
    rw [decide_eq_true rfl]
    refine ⟨l, rfl, IsC.refl _ _ _, by omega, l, rfl, IsC.refl _ _ _, hv, hv, ?_⟩
    rw [decide_eq_true rfl]
    exact hq
  | d + 1, k, cc, hd => by
    refine FOk.rnd (run_sound hm 60 ((emC l root cc cc cc l.length 0 0 nc k (d + 1) _ _).mpr ⟨?_⟩))
    rw [cond_dec, if_pos (by omega), wrap_inc _ (by omega)]
    refine And.intro (fun _ => by omega) (And.intro (fun _ => by omega) ?_)
    exact FOk.cv (em_c l hl root hv nc hnc Q hq d (k + 1) _ (by omega)) (⟨HE.refl _, HE.refl _, ⟨rfl, rfl, rfl, IsC.refl _ _ _⟩, trivial⟩)
theorem em_d (l : List Nd) (hl : l.length ≤ 64) (root : Int) (hv : ∀ x ∈ l, x.v < top) (nd nc : Nat) (hnd : nd ≤ 64) (hnc : nc ≤ 64) (Q : SV → List HO → Prop) (hq : Q (.v (.bool true)) []) : ∀ (d k : Nat) (cd cc : Nat → Nat → Cell), k + d = nd →
    FOk Try.prog Try.f11 Q (.rnd [0,0,1,0,1,1,1,1,1,1,1,1] (d + 1) :: [.blk 2, .at [1,1,1,1,1,1,1,1,1]]) ⟨[(0, .x 0 []), (2, .v (.int .i64 root)), (6, .v (.bool false)), (7, .o 1), (9, .o 2), (10, .o 3), (12, .v (.int .i64 (k : Int)))], [.ext false (.s false 7 l.length (cN l)), .rowc 43 7 l.length (.fn (cN l)), .rowc 3 1 nd (.fn cd), .rowc 3 1 nc (.fn cc)]⟩
  | 0, k, cd, cc, hd => by
    refine FOk.rnd (run_sound hm 60 ((emD l root cd cd cc l.length 0 nd nc k 0 _ _).mpr ⟨?_⟩))
    rw [cond_dec, if_neg (by omega)]
    exact FOk.loop (nc + 1) (by kernel_rfl) (em_c l hl root hv nc hnc Q hq nc 0 cc (by omega))
  | d + 1, k, cd, cc, hd => by
    refine FOk.rnd (run_sound hm 60 ((emD l root cd cd cc l.length 0 nd nc k (d + 1) _ _).mpr ⟨?_⟩))
    rw [cond_dec, if_pos (by omega), wrap_inc _ (by omega)]
    refine And.intro (fun _ => by omega) (And.intro (fun _ => by omega) ?_)
    exact FOk.cv (em_d l hl root hv nd nc hnd hnc Q hq d (k + 1) _ _ (by omega)) (⟨HE.refl _, HE.refl _, ⟨rfl, rfl, rfl, IsC.refl _ _ _⟩, HE.refl _, trivial⟩)
theorem em_q (l : List Nd) (hl : l.length ≤ 64) (root : Int) (hv : ∀ x ∈ l, x.v < top) (nq nd nc : Nat) (hnq : nq ≤ 64) (hnd : nd ≤ 64) (hnc : nc ≤ 64) (Q : SV → List HO → Prop) (hq : Q (.v (.bool true)) []) : ∀ (d k : Nat) (cq cd cc : Nat → Nat → Cell), k + d = nq →
    FOk Try.prog Try.f11 Q (.rnd [0,0,1,0,1,1,1,1,1,1,1] (d + 1) :: [.blk 0, .at [1,1,1,1,1,1,1,1]]) ⟨[(0, .x 0 []), (2, .v (.int .i64 root)), (6, .v (.bool false)), (7, .o 1), (8, .o 2), (9, .o 3), (10, .o 4), (11, .v (.int .i64 (k : Int)))], [.ext false (.s false 7 l.length (cN l)), .rowc 43 7 l.length (.fn (cN l)), .rowc 63 3 nq (.fn cq), .rowc 3 1 nd (.fn cd), .rowc 3 1 nc (.fn cc)]⟩
  | 0, k, cq, cd, cc, hd => by
    refine FOk.rnd (run_sound hm 60 ((emQ l root cq cd cc l.length nq nd nc k 0 _ _).mpr ⟨?_⟩))
    rw [cond_dec, if_neg (by omega)]
    exact FOk.loop (nd + 1) (by kernel_rfl) (em_d l hl root hv nd nc hnd hnc Q hq nd 0 cd cc (by omega))
  | d + 1, k, cq, cd, cc, hd => by
    refine FOk.rnd (run_sound hm 60 ((emQ l root cq cd cc l.length nq nd nc k (d + 1) _ _).mpr ⟨?_⟩))
    rw [cond_dec, if_pos (by omega), wrap_inc _ (by omega)]
    refine And.intro (fun _ => by omega) (And.intro (fun _ => by omega) ?_)
    exact FOk.cv (em_q l hl root hv nq nd nc hnq hnd hnc Q hq d (k + 1) _ _ _ (by omega)) (⟨HE.refl _, HE.refl _, ⟨rfl, rfl, rfl, IsC.refl _ _ _⟩, HE.refl _, HE.refl _, trivial⟩)
theorem bEm : Try.f11.body.isSome = true := by kernel_rfl
theorem nEm (root : Int) : Nat.ble [SV.x 0 [], .x 1 [], .v (.int .i64 root)].length Try.f11.ntmps = true := by kernel_rfl
theorem exprMemory_ok (l : List Nd) (vs : List Nat) (root : Int) (hv : ∀ x ∈ l, x.v < top) (Q : SV → List HO → Prop) (hq : Q (.v (.bool true)) []) : FnOk Try.prog 11 [.x 0 [], .x 1 [], .v (.int .i64 root)] [.ext false (.s false 7 l.length (cN l)), .ext false (.s false 4 vs.length (cE vs))] Q := by
  refine fn_of_ok Try.func11 bEm ?_ ?_
  · exact nEm root
  refine run_sound hm 60 ((emS l vs root _ _).mpr ⟨?_⟩)
  rw [cond_dec]
  refine ite_intro (fun _ => hq) (fun h => ?_)
  have hl : l.length ≤ 64 := by omega
  have q := qsN_len l []
  have dg := degrees_len l
  have cn := coneN_len l root
  simp only [List.length_nil] at q
  refine ⟨l, rfl, IsC.refl _ _ _, by omega, l, rfl, IsC.refl _ _ _, by omega, l, rfl, IsC.refl _ _ _, by omega, l, rfl, IsC.refl _ _ _, by omega, ?_⟩
  exact FOk.loop ((qsN [] l).length + 1) (by kernel_rfl) (em_q l hl root hv (qsN [] l).length (degrees l).length (coneN l root).length (by omega) (by omega) (by omega) Q hq (qsN [] l).length 0 _ _ _ (by omega))
end Go.Proofs.Ytpghmnpbfaichaa
/- Values and degrees, place by place; where all degrees are 1 at most the values are linear. -/
namespace Go.Pl
open Go.Sx
theorem gE_take (l : List Nat) {j k : Nat} (h : j < k) : gE (l.take k) j = gE l j := by
  simp only [gE, List.getD_eq_getElem?_getD, List.getElem?_take, if_pos h]
theorem gI_take (l : List Int) {j k : Nat} (h : j < k) : gI (l.take k) j = gI l j := by
  simp only [gI, List.getD_eq_getElem?_getD, List.getElem?_take, if_pos h]
theorem valD_congr {s : Int} {qs : List Qy} {vs o1 o2 : List Nat} {x : Nd} (h : ∀ j ∈ usesN x, gE o1 j.toNat = gE o2 j.toNat) : valD s qs vs o1 x = valD s qs vs o2 x := by
  rw [usesN_eq] at h
  by_cases h5 : x.op = 5 ∨ x.op = 8
  · rw [us_n x.a x.b h5] at h
    have ha := h x.a (by simp)
    unfold valD
    rw [ha]
    rcases h5 with h5 | h5 <;> simp [h5]
  · by_cases h6 : x.op = 6 ∨ x.op = 7
    · rw [us_a x.a x.b h6] at h
      have ha := h x.a (by simp)
      have hb := h x.b (by simp)
      unfold valD
      rw [ha, hb]
    · unfold valD
      simp only [if_neg (show ¬ x.op = 5 by omega), if_neg (show ¬ x.op = 6 by omega), if_neg (show ¬ x.op = 7 by omega), if_neg (show ¬ x.op = 8 by omega)]
theorem degN_congr {o1 o2 : List Int} {x : Nd} (h : ∀ j ∈ usesN x, gI o1 j.toNat = gI o2 j.toNat) : degN o1 x = degN o2 x := by
  simp only [gI] at h
  rw [usesN_eq] at h
  have key : degD o1 x = degD o2 x := by
    by_cases h5 : x.op = 5 ∨ x.op = 8
    · rw [us_n x.a x.b h5] at h
      have ha := h x.a (by simp)
      unfold degD
      simp only [ha]
      rcases h5 with h5 | h5 <;> simp [h5]
    · by_cases h6 : x.op = 6 ∨ x.op = 7
      · rw [us_a x.a x.b h6] at h
        have ha := h x.a (by simp)
        have hb := h x.b (by simp)
        unfold degD
        simp only [ha, hb]
      · unfold degD
        simp only [if_neg (show ¬ (x.op = 5 ∨ x.op = 8) by omega), if_neg (show ¬ x.op = 6 by omega), if_neg (show ¬ x.op = 7 by omega)]
  unfold degN
  rw [key]
theorem valsN_pre {s : Int} {qs : List Qy} {vs : List Nat} : ∀ (l : List Nd) (pre out : List Nat), valsN s qs vs pre l = some out → out.take pre.length = pre ∧ out.length = pre.length + l.length
  | [], pre, out, h => by
    simp only [valsN, Option.some.injEq] at h
    subst h
    simp
  | x :: r, pre, out, h => by
    rw [valsN] at h
    split at h
    · cases h
    · rename_i v hv
      obtain ⟨h1, h2⟩ := valsN_pre r _ out h
      rw [List.length_append] at h1 h2
      simp only [List.length_cons, List.length_nil] at h1 h2 ⊢
      refine ⟨?_, by omega⟩
      have := congrArg (List.take pre.length) h1
      rw [List.take_take, List.take_left' rfl, show min pre.length (pre.length + (0 + 1)) = pre.length by omega] at this
      exact this
theorem valsN_at {s : Int} {qs : List Qy} {vs : List Nat} : ∀ (l : List Nd) (pre out : List Nat), valsN s qs vs pre l = some out → ∀ k, k < l.length → ∃ v, valD s qs vs (out.take (pre.length + k)) (gN l k) = some v ∧ gE out (pre.length + k) = fAd s v 0
  | [], pre, out, h, k, hk => by simp at hk
  | x :: r, pre, out, h, k, hk => by
    have h0 := h
    rw [valsN] at h
    split at h
    · cases h
    · rename_i v hv
      cases k with
      | zero =>
        obtain ⟨h1, _⟩ := valsN_pre _ _ _ h0
        obtain ⟨h2, _⟩ := valsN_pre _ _ _ h
        refine ⟨v, ?_, ?_⟩
        · rw [Nat.add_zero, h1]; exact hv
        · rw [List.length_append, List.length_cons, List.length_nil] at h2
          have e : gE (out.take (pre.length + (0 + 1))) pre.length = gE out pre.length := gE_take out (by omega)
          rw [h2] at e
          rw [Nat.add_zero, ← e]
          simp [gE]
      | succ k =>
        have := valsN_at r _ out h k (by simpa using hk)
        rw [List.length_append, List.length_cons, List.length_nil, show pre.length + (0 + 1) + k = pre.length + (k + 1) by omega] at this
        exact this
/-- A node's value, told of the values. -/
theorem vals_at {s : Int} {qs : List Qy} {vs : List Nat} {l : List Nd} {out : List Nat} (ho : ordN 0 l = true) (h : valsN s qs vs [] l = some out) {k : Nat} (hk : k < l.length) : ∃ v, valD s qs vs out (gN l k) = some v ∧ gE out k = fAd s v 0 := by
  obtain ⟨v, h1, h2⟩ := valsN_at l [] out h k hk
  rw [List.length_nil, Nat.zero_add] at h1 h2
  refine ⟨v, ?_, h2⟩
  rw [← h1]
  refine valD_congr fun j hj => ?_
  have hok : okN k (gN l k) = true := ordN_get ho k (gN l k) (by rw [gN, List.getD_eq_getElem?_getD, List.getElem?_eq_getElem hk]; rfl)
  have := okN_uses hok j hj
  rw [gE_take out (by omega)]
theorem degsN_pre : ∀ (l : List Nd) (pre : List Int), (degsN pre l).take pre.length = pre
  | [], pre => by rw [degsN]; simp
  | x :: r, pre => by
    rw [degsN]
    have h1 := degsN_pre r (pre ++ [degN pre x])
    rw [List.length_append] at h1
    simp only [List.length_cons, List.length_nil] at h1
    have := congrArg (List.take pre.length) h1
    rw [List.take_take, List.take_left' rfl, show min pre.length (pre.length + (0 + 1)) = pre.length by omega] at this
    exact this
theorem degsN_at : ∀ (l : List Nd) (pre : List Int) (k : Nat), k < l.length → gI (degsN pre l) (pre.length + k) = degN ((degsN pre l).take (pre.length + k)) (gN l k)
  | [], pre, k, hk => by simp at hk
  | x :: r, pre, k, hk => by
    cases k with
    | zero =>
      rw [Nat.add_zero, degsN_pre]
      have h2 := degsN_pre r (pre ++ [degN pre x])
      rw [List.length_append, List.length_cons, List.length_nil] at h2
      rw [degsN]
      have e : gI ((degsN (pre ++ [degN pre x]) r).take (pre.length + (0 + 1))) pre.length = gI (degsN (pre ++ [degN pre x]) r) pre.length := gI_take _ (by omega)
      rw [h2] at e
      rw [← e]
      simp [gI, gN]
    | succ k =>
      have := degsN_at r (pre ++ [degN pre x]) k (by simpa using hk)
      rw [List.length_append, List.length_cons, List.length_nil, show pre.length + (0 + 1) + k = pre.length + (k + 1) by omega] at this
      exact this
theorem deg_at {l : List Nd} (ho : ordN 0 l = true) {k : Nat} (hk : k < l.length) : gI (degrees l) k = degN (degrees l) (gN l k) := by
  rw [degrees, if_pos ho]
  have h := degsN_at l [] k hk
  rw [List.length_nil, Nat.zero_add] at h
  rw [h]
  refine degN_congr fun j hj => ?_
  have hok : okN k (gN l k) = true := ordN_get ho k (gN l k) (by rw [gN, List.getD_eq_getElem?_getD, List.getElem?_eq_getElem hk]; rfl)
  have := okN_uses hok j hj
  rw [gI_take _ (by omega)]
/-- Every query has its place in qs. -/
def hasQ (qs : List Qy) (l : List Nd) : Prop := ∀ x ∈ l, 2 ≤ x.op ∧ x.op ≤ 4 → (x.op, x.a, x.b) ∈ qs
theorem valD_some {s : Int} {qs : List Qy} {vs out : List Nat} {x : Nd} (h : 2 ≤ x.op ∧ x.op ≤ 4 → (x.op, x.a, x.b) ∈ qs) (hop : 1 ≤ x.op ∧ x.op ≤ 8) : ∃ v, valD s qs vs out x = some v := by
  by_cases hq : 2 ≤ x.op ∧ x.op ≤ 4
  · rw [valD_q s qs vs out hq, if_neg (by have := (idx_has x.op x.a x.b qs).2 (h hq); omega)]
    exact ⟨_, rfl⟩
  · have : x.op = 1 ∨ x.op = 5 ∨ x.op = 6 ∨ x.op = 7 ∨ x.op = 8 := by omega
    rcases this with h | h | h | h | h
    · exact ⟨_, valD_c s qs vs out h⟩
    · exact ⟨_, valD_n s qs vs out h⟩
    · exact ⟨_, valD_a s qs vs out h⟩
    · exact ⟨_, valD_m s qs vs out h⟩
    · exact ⟨_, valD_s s qs vs out h⟩
theorem valsN_total {s : Int} {qs : List Qy} {vs : List Nat} : ∀ (l : List Nd) (pre : List Nat), hasQ qs l → (∀ x ∈ l, 1 ≤ x.op ∧ x.op ≤ 8) → ∃ out, valsN s qs vs pre l = some out
  | [], pre, _, _ => ⟨pre, rfl⟩
  | x :: r, pre, h, ho => by
    obtain ⟨v, hv⟩ := valD_some (s := s) (vs := vs) (out := pre) (h x (by simp)) (ho x (by simp))
    rw [valsN_some hv]
    exact valsN_total r _ (fun y hy => h y (List.mem_cons_of_mem _ hy)) (fun y hy => ho y (List.mem_cons_of_mem _ hy))
theorem qsN_sub : ∀ (l : List Nd) (out : List Qy), ∀ q ∈ out, q ∈ qsN out l
  | [], out, q, h => by rw [qsN]; exact h
  | x :: r, out, q, h => by
    rw [qsN]
    split
    · exact qsN_sub r _ q (List.mem_append_left _ h)
    · exact qsN_sub r _ q h
theorem qsN_has : ∀ (l : List Nd) (out : List Qy), hasQ (qsN out l) l
  | [], out, x, h, _ => by cases h
  | y :: r, out, x, h, hq => by
    rcases List.mem_cons.1 h with rfl | h
    · by_cases hm : (x.op, x.a, x.b) ∈ out
      · exact qsN_sub _ _ _ hm
      · rw [qsN_new out r hq hm]
        exact qsN_sub _ _ _ (by simp)
    · rw [qsN]
      split
      · exact qsN_has r _ x h hq
      · exact qsN_has r _ x h hq
theorem fP_1 : fP 1 = 16521217 := rfl
theorem fAd_1 (a b : Nat) : fAd 1 a b = (a + b) % 16521217 := by rw [fAd, if_neg (by rw [fP_1]; omega), fA_eq, fP_1]
theorem fMu_1 (a b : Nat) : fMu 1 a b = a * b % 16521217 := by rw [fMu, if_neg (by rw [fP_1]; omega), fM_eq, fP_1]
theorem fNg_1 (a : Nat) : fNg 1 a = (16521217 - a % 16521217) % 16521217 := by rw [fNg, if_neg (by rw [fP_1]; omega), fN_eq, fP_1]
theorem lin_mul (P c s o p r : Nat) (h : (s + o) % P = (p + r) % P) : (c * s % P + c * o % P) % P = (c * p % P + c * r % P) % P := by
  rw [← Nat.add_mod, ← Nat.add_mod, ← Nat.mul_add, ← Nat.mul_add, Nat.mul_mod, h, ← Nat.mul_mod]
theorem valD_q' {s : Int} {qs : List Qy} {vs out : List Nat} {x : Nd} {v : Nat} (hq : 2 ≤ x.op ∧ x.op ≤ 4) (h : valD s qs vs out x = some v) : 0 ≤ idxF (sameQ x.op x.a x.b) 0 qs ∧ v = gE vs (idxF (sameQ x.op x.a x.b) 0 qs).toNat := by
  rw [valD_q s qs vs out hq] at h
  split at h
  · cases h
  · simp only [Option.some.injEq] at h
    exact ⟨by omega, h.symm⟩
/-- Where all degrees are 1 at most, the values at a sum are the values' sums less those at nought. -/
theorem lin_law {l : List Nd} {qs : List Qy} {zs us vs ws o p r s : List Nat} (ho : ordN 0 l = true) (hd : ∀ k, k < l.length → gI (degrees l) k ≤ 1)
    (hz : ∀ k, k < qs.length → gE zs k = 0) (hw : ∀ k, k < qs.length → gE ws k = fAd 1 (gE us k) (gE vs k))
    (h0 : valsN 1 qs zs [] l = some o) (h1 : valsN 1 qs us [] l = some p) (h2 : valsN 1 qs vs [] l = some r) (h3 : valsN 1 qs ws [] l = some s) :
    ∀ n k, k < n → k < l.length → (gI (degrees l) k = 0 → gE o k = gE p k ∧ gE o k = gE r k ∧ gE o k = gE s k) ∧ (gE s k + gE o k) % 16521217 = (gE p k + gE r k) % 16521217
  | 0, k, hn, _ => by omega
  | n + 1, k, hn, hk => by
    have ih := lin_law ho hd hz hw h0 h1 h2 h3 n
    obtain ⟨v0, a0, b0⟩ := vals_at ho h0 hk
    obtain ⟨v1, a1, b1⟩ := vals_at ho h1 hk
    obtain ⟨v2, a2, b2⟩ := vals_at ho h2 hk
    obtain ⟨v3, a3, b3⟩ := vals_at ho h3 hk
    have hdk := hd k hk
    have hda := deg_at ho hk
    have hok : okN k (gN l k) = true := ordN_get ho k (gN l k) (by rw [gN, List.getD_eq_getElem?_getD, List.getElem?_eq_getElem hk]; rfl)
    have hus := okN_uses hok
    have hop := ordN_op l 0 ho _ (gN_mem hk)
    rw [fAd_1, Nat.add_zero] at b0 b1 b2 b3
    have hge : ∀ j, 0 ≤ gI (degrees l) j ∧ gI (degrees l) j ≤ 1000 := fun j => by
      have : ∀ z ∈ degrees l, 0 ≤ z ∧ z ≤ 1000 := by
        rw [degrees, if_pos ho]
        have gen : ∀ (l : List Nd) (out : List Int), (∀ z ∈ out, 0 ≤ z ∧ z ≤ 1000) → ∀ z ∈ degsN out l, 0 ≤ z ∧ z ≤ 1000 := by
          intro l
          induction l with
          | nil => intro out h; rw [degsN]; exact h
          | cons x r ih =>
            intro out h
            rw [degsN]
            refine ih _ fun z hz => ?_
            rcases List.mem_append.1 hz with hz | hz
            · exact h z hz
            · rw [List.mem_singleton] at hz; rw [hz]; exact degN_bound h x
        exact gen l [] (fun z hz => by cases hz)
      exact getD_bound this j
    generalize hx : gN l k = x at *
    have use1 : ∀ j ∈ usesN x, (gI (degrees l) j.toNat = 0 → gE o j.toNat = gE p j.toNat ∧ gE o j.toNat = gE r j.toNat ∧ gE o j.toNat = gE s j.toNat) ∧ (gE s j.toNat + gE o j.toNat) % 16521217 = (gE p j.toNat + gE r j.toNat) % 16521217 := fun j hj => by
      have := hus j hj
      exact ih j.toNat (by omega) (by omega)
    rw [usesN_eq] at use1
    have cases : x.op = 1 ∨ (2 ≤ x.op ∧ x.op ≤ 4) ∨ x.op = 5 ∨ x.op = 6 ∨ x.op = 7 ∨ x.op = 8 := by omega
    rcases cases with h | h | h | h | h | h
    · rw [valD_c _ _ _ _ h, Option.some.injEq] at a0 a1 a2 a3
      subst a0 a1 a2 a3
      rw [b0, b1, b2, b3]
      exact ⟨fun _ => ⟨rfl, rfl, rfl⟩, rfl⟩
    · obtain ⟨i0, rfl⟩ := valD_q' h a0
      obtain ⟨_, rfl⟩ := valD_q' h a1
      obtain ⟨_, rfl⟩ := valD_q' h a2
      obtain ⟨_, rfl⟩ := valD_q' h a3
      have hlt := idxF_lt (sameQ x.op x.a x.b) qs 0
      have e0 := hz (idxF (sameQ x.op x.a x.b) 0 qs).toNat (by omega)
      have e3 := hw (idxF (sameQ x.op x.a x.b) 0 qs).toNat (by omega)
      rw [e0] at b0
      rw [e3, fAd_1] at b3
      rw [degN_q _ h] at hda
      refine ⟨fun hh => by rw [hda] at hh; simp at hh, ?_⟩
      rw [b0, b1, b2, b3]
      omega
    · rw [valD_n _ _ _ _ h, Option.some.injEq] at a0 a1 a2 a3
      subst a0 a1 a2 a3
      rw [us_n x.a x.b (.inl h)] at use1
      obtain ⟨u1, u2⟩ := use1 x.a (by simp)
      rw [degN_n _ h] at hda
      have hg := hge x.a.toNat
      simp only [gI] at hda u1 hg hdk ⊢
      rw [fNg_1] at b0 b1 b2 b3
      refine ⟨fun hh => ?_, by rw [b0, b1, b2, b3]; omega⟩
      obtain ⟨q1, q2, q3⟩ := u1 (by rw [hh] at hda; split at hda <;> omega)
      rw [b0, b1, b2, b3, ← q1, ← q2, ← q3]
      exact ⟨rfl, rfl, rfl⟩
    · rw [valD_a _ _ _ _ h, Option.some.injEq] at a0 a1 a2 a3
      subst a0 a1 a2 a3
      rw [us_a x.a x.b (.inl h)] at use1
      obtain ⟨u1, u2⟩ := use1 x.a (by simp)
      obtain ⟨w1, w2⟩ := use1 x.b (by simp)
      rw [degN_a _ h] at hda
      have hg := hge x.a.toNat
      have hg2 := hge x.b.toNat
      simp only [gI] at hda u1 w1 hg hg2 hdk ⊢
      rw [fAd_1] at b0 b1 b2 b3
      refine ⟨fun hh => ?_, by rw [b0, b1, b2, b3]; omega⟩
      have hz2 : (degrees l).getD x.a.toNat 0 = 0 ∧ (degrees l).getD x.b.toNat 0 = 0 := by
        rw [hh] at hda
        split at hda
        · omega
        · split at hda <;> omega
      obtain ⟨q1, q2, q3⟩ := u1 hz2.1
      obtain ⟨r1, r2, r3⟩ := w1 hz2.2
      rw [b0, b1, b2, b3, ← q1, ← q2, ← q3, ← r1, ← r2, ← r3]
      exact ⟨rfl, rfl, rfl⟩
    · rw [valD_m _ _ _ _ h, Option.some.injEq] at a0 a1 a2 a3
      subst a0 a1 a2 a3
      rw [us_a x.a x.b (.inr h)] at use1
      obtain ⟨u1, u2⟩ := use1 x.a (by simp)
      obtain ⟨w1, w2⟩ := use1 x.b (by simp)
      rw [degN_m _ h] at hda
      have hg := hge x.a.toNat
      have hg2 := hge x.b.toNat
      simp only [gI] at hda u1 w1 hg hg2 hdk ⊢
      rw [fMu_1, Nat.mod_mod] at b0 b1 b2 b3
      have hz2 : (degrees l).getD x.a.toNat 0 = 0 ∧ (degrees l).getD x.b.toNat 0 = 0 ∨ (degrees l).getD k 0 = 1 ∧ ((degrees l).getD x.a.toNat 0 = 0 ∨ (degrees l).getD x.b.toNat 0 = 0) := by
        split at hda <;> omega
      rcases hz2 with ⟨z1, z2⟩ | ⟨z0, z1 | z1⟩
      · obtain ⟨q1, q2, q3⟩ := u1 z1
        obtain ⟨r1, r2, r3⟩ := w1 z2
        rw [b0, b1, b2, b3, ← q1, ← q2, ← q3, ← r1, ← r2, ← r3]
        exact ⟨fun _ => ⟨rfl, rfl, rfl⟩, rfl⟩
      · obtain ⟨q1, q2, q3⟩ := u1 z1
        rw [b0, b1, b2, b3, ← q1, ← q2, ← q3]
        exact ⟨fun hh => by omega, lin_mul _ _ _ _ _ _ w2⟩
      · obtain ⟨q1, q2, q3⟩ := w1 z1
        rw [b0, b1, b2, b3, ← q1, ← q2, ← q3, Nat.mul_comm _ (gE o x.b.toNat), Nat.mul_comm _ (gE o x.b.toNat), Nat.mul_comm _ (gE o x.b.toNat), Nat.mul_comm _ (gE o x.b.toNat)]
        exact ⟨fun hh => by omega, lin_mul _ _ _ _ _ _ u2⟩
    · rw [valD_s _ _ _ _ h, Option.some.injEq] at a0 a1 a2 a3
      subst a0 a1 a2 a3
      rw [us_n x.a x.b (.inr h)] at use1
      obtain ⟨u1, u2⟩ := use1 x.a (by simp)
      rw [degN_s _ h] at hda
      have hg := hge x.a.toNat
      simp only [gI] at hda u1 hg hdk ⊢
      rw [fMu_1, Nat.mod_mod] at b0 b1 b2 b3
      refine ⟨fun hh => ?_, by rw [b0, b1, b2, b3]; exact lin_mul _ _ _ _ _ _ u2⟩
      obtain ⟨q1, q2, q3⟩ := u1 (by rw [hh] at hda; split at hda <;> omega)
      rw [b0, b1, b2, b3, ← q1, ← q2, ← q3]
      exact ⟨rfl, rfl, rfl⟩
end Go.Pl
/- ExprLinear: the walk. -/
namespace Go.Pl
open Go.Sx
noncomputable abbrev eC (a : Nat) : List Cell := [.v (.int .u64 (limb a 0 : Nat)), .v (.int .u64 (limb a 1 : Nat)), .v (.int .u64 (limb a 2 : Nat)), .v (.int .u64 (limb a 3 : Nat))]
theorem eI_small (n : Nat) (h : n < 18446744073709551616) : eI n = [(n : Int), 0, 0, 0] := by
  obtain ⟨h0, h1, h2, h3⟩ := limb_lit n h
  rw [eI, h0, h1, h2, h3]; rfl
theorem eC_small (n : Nat) (h : n < 18446744073709551616) : eC n = [.v (.int .u64 (n : Int)), .v (.int .u64 0), .v (.int .u64 0), .v (.int .u64 0)] := by
  obtain ⟨h0, h1, h2, h3⟩ := limb_lit n h
  rw [eC, h0, h1, h2, h3]; rfl
theorem cE_map (g : Nat → Nat) (k : Nat) : IsC (k + 1) 4 (Ct.app k (.fn (cE ((List.range k).map g))) (.lit 4 (eC (g k)))).at (Ct.fn (cE ((List.range (k + 1)).map g))).at := by
  rw [List.range_succ, List.map_append]
  exact cE_snoc (g k) (by simp)
theorem gE_map (g : Nat → Nat) {n k : Nat} (h : k < n) : gE ((List.range n).map g) k = g k := by
  simp [gE, h]
theorem small_top {n : Nat} (h : n < 18446744073709551616) : n < top := by simp only [top]; omega
end Go.Pl
namespace Go.Proofs.Ytpghmnpbfaichaa
open Go.Sx Go.Pl
set_option linter.unusedVariables false
set_option maxRecDepth 100000
theorem eiS (l : List Nd) (xs ys : List Nat) (K : List It → St → Prop) (R : SV → List HO → Prop) : W (xwp Try.prog X K31 [] 60 (fxOf Try.f9 [] [⟨[0,1,0,1,1,1,1], [0,1,2,6,7,8], []⟩, ⟨[0,1,0,1,1,1,1,1,1,1,1,1,1], [1,2,0,6,7,9,10,11,12,13,14], []⟩, ⟨[0,1,0,1,1,1,1,1,1,1,1,1,1,1,1,1,1,1,1], [0,6,17,19,21,23,25], []⟩]) [] [.at []] ⟨argsS 0 [.x 0 [], .x 1 [], .x 2 []], [.ext false (.s false 7 l.length (cN l)), .ext false (.s false 4 xs.length (cE xs)), .ext false (.s false 4 ys.length (cE ys))]⟩ K R) = W (bif decide ((64 : Int) < (↑(List.length l) : Int)) then R (SV.v (Value.bool true)) [] else ∃ (l_1 : List Nd), List.length l = List.length l_1 ∧ IsC (List.length l) 7 (cN l) (cN l_1) ∧ List.length l_1 ≤ 2513169434916 ∧ ∃ (l_2 : List Nd), List.length l_1 = List.length l_2 ∧ IsC (List.length l_1) 7 (cN l_1) (cN l_2) ∧ List.length l_2 ≤ 4398046511104 ∧ K [It.at [0, 1, 0, 1, 1, 1, 1], It.blk 0, It.at [1, 1, 1, 1, 1]] (St.mk [(0, SV.x 0 []), (1, SV.x 1 []), (2, SV.x 2 []), (6, SV.v (Value.bool false)), (7, SV.o 3), (8, SV.v (vi64 (0 : Int)))] [HO.ext false (Cell.s false 7 (List.length l) (cN l)), HO.ext false (Cell.s false 4 (List.length xs) (cE xs)), HO.ext false (Cell.s false 4 (List.length ys) (cE ys)), HO.rowc 3 1 (List.length (degrees l_2)) (Ct.fn (cI (degrees l_2)))])) := by kernel_rfl
theorem ei1 (l : List Nd) (xs ys : List Nat) (n nx ny k M : Nat) (K : List It → St → Prop) (R : SV → List HO → Prop) : W (xwp Try.prog X K31 [] 60 (fxOf Try.f9 [] [⟨[0,1,0,1,1,1,1], [0,1,2,6,7,8], []⟩, ⟨[0,1,0,1,1,1,1,1,1,1,1,1,1], [1,2,0,6,7,9,10,11,12,13,14], []⟩, ⟨[0,1,0,1,1,1,1,1,1,1,1,1,1,1,1,1,1,1,1], [0,6,17,19,21,23,25], []⟩]) [] (.at [0,0,1,0,1,1,1,1] :: .rnd [0,0,1,0,1,1,1,1] M :: [.blk 0, .at [1,1,1,1,1]]) ⟨[(0, .x 0 []), (1, .x 1 []), (2, .x 2 []), (6, .v (.bool false)), (7, .o 3), (8, .v (.int .i64 (k : Int)))], [.ext false (.s false 7 l.length (cN l)), .ext false (.s false 4 xs.length (cE xs)), .ext false (.s false 4 ys.length (cE ys)), .rowc 3 1 (degrees l).length (.fn (cI (degrees l)))]⟩ K R) = W (bif decide ((↑k : Int) < (↑(List.length (degrees l)) : Int)) then (∀ (M : Mem), (0 : Int) ≤ (↑k : Int) ∧ (↑k : Int) < (↑(List.length (degrees l)) : Int)) ∧ (∀ (M : Mem), k < List.length (degrees l)) ∧ bif decide ((1 : Int) < gI (degrees l) k) then R (SV.v (Value.bool true)) [] else K [It.rnd [0, 0, 1, 0, 1, 1, 1, 1] M, It.blk 0, It.at [1, 1, 1, 1, 1]] (St.mk [(0, SV.x 0 []), (1, SV.x 1 []), (2, SV.x 2 []), (6, SV.v (Value.bool false)), (7, SV.o 3), (8, SV.v (vi64 (IntKind.wrap IntKind.i64 ((↑k : Int) + (1 : Int)))))] [HO.ext false (Cell.s false 7 (List.length l) (cN l)), HO.ext false (Cell.s false 4 (List.length xs) (cE xs)), HO.ext false (Cell.s false 4 (List.length ys) (cE ys)), HO.rowc 3 1 (List.length (degrees l)) (Ct.fn (cI (degrees l)))]) else ∃ (l_1 : List Nd), List.length l = List.length l_1 ∧ IsC (List.length l) 7 (cN l) (cN l_1) ∧ List.length l_1 ≤ 2513169434916 ∧ ∃ (l_2 : List Nd), List.length l_1 = List.length l_2 ∧ IsC (List.length l_1) 7 (cN l_1) (cN l_2) ∧ List.length l_2 ≤ 4000000000000 ∧ K [It.at [0, 1, 0, 1, 1, 1, 1, 1, 1, 1, 1, 1, 1], It.blk 2, It.at [1, 1, 1, 1, 1, 1, 1, 1, 1, 1, 1]] (St.mk [(1, SV.x 0 []), (2, SV.x 1 []), (0, SV.x 2 []), (6, SV.v (Value.bool false)), (7, SV.o 3), (9, SV.o 4), (10, SV.o 5), (11, SV.o 6), (12, SV.o 7), (13, SV.o 8), (14, SV.v (vi64 (0 : Int)))] [HO.ext false (Cell.s false 4 (List.length xs) (cE xs)), HO.ext false (Cell.s false 4 (List.length ys) (cE ys)), HO.ext false (Cell.s false 7 (List.length l) (cN l)), HO.rowc 3 1 (List.length (degrees l)) (Ct.fn (cI (degrees l))), HO.rowc 63 3 (List.length (qsN [] l_2)) (Ct.fn (cQ (qsN [] l_2))), HO.rowc 41 4 0 (Ct.lit 4 []), HO.rowc 41 4 0 (Ct.lit 4 []), HO.rowc 41 4 0 (Ct.lit 4 []), HO.rowc 41 4 0 (Ct.lit 4 [])])) := by kernel_rfl
theorem ei2 (l : List Nd) (xs ys : List Nat) (cd : Nat → Nat → Cell) (nd : Nat) (qs : List (Int × Int × Int)) (zs us vs ws : List Nat) (n nx ny nq k M : Nat) (K : List It → St → Prop) (R : SV → List HO → Prop) : W (xwp Try.prog X K31 [] 60 (fxOf Try.f9 [] [⟨[0,1,0,1,1,1,1], [0,1,2,6,7,8], []⟩, ⟨[0,1,0,1,1,1,1,1,1,1,1,1,1], [1,2,0,6,7,9,10,11,12,13,14], []⟩, ⟨[0,1,0,1,1,1,1,1,1,1,1,1,1,1,1,1,1,1,1], [0,6,17,19,21,23,25], []⟩]) [] (.at [0,0,1,0,1,1,1,1,1,1,1,1,1,1] :: .rnd [0,0,1,0,1,1,1,1,1,1,1,1,1,1] M :: [.blk 2, .at [1,1,1,1,1,1,1,1,1,1,1]]) ⟨[(1, .x 0 []), (2, .x 1 []), (0, .x 2 []), (6, .v (.bool false)), (7, .o 3), (9, .o 4), (10, .o 5), (11, .o 6), (12, .o 7), (13, .o 8), (14, .v (.int .i64 (k : Int)))], [.ext false (.s false 4 nx (cE xs)), .ext false (.s false 4 ny (cE ys)), .ext false (.s false 7 n (cN l)), .rowc 3 1 nd (.fn cd), .rowc 63 3 nq (.fn (cQ qs)), .rowc 41 4 k (.fn (cE zs)), .rowc 41 4 k (.fn (cE us)), .rowc 41 4 k (.fn (cE vs)), .rowc 41 4 k (.fn (cE ws))]⟩ K R) = W (bif decide ((↑k : Int) < (↑nq : Int)) then (∀ (M : Mem), 0 + 4 ≤ 4) ∧ (∀ (M : Mem), 4 ≤ 4) ∧ bif decide ((↑k : Int) < (↑nx : Int)) then (∀ (M : Mem), (0 : Int) ≤ (↑k : Int) ∧ (↑k : Int) < (↑nx : Int)) ∧ (∀ (M : Mem), k < nx) ∧ (∀ (M : Mem), 0 + 4 ≤ 4) ∧ bif decide ((↑k : Int) < (↑ny : Int)) then (∀ (M : Mem), (0 : Int) ≤ (↑k : Int) ∧ (↑k : Int) < (↑ny : Int)) ∧ (∀ (M : Mem), k < ny) ∧ (∀ (M : Mem), 0 + 4 ≤ 4) ∧ (∀ (M : Mem), (k + 1) * 32 ≤ 140737488355328 ∧ k + 1 ≤ 140737488355328) ∧ (∀ (M : Mem), (k + 1) * 32 ≤ 140737488355328 ∧ k + 1 ≤ 140737488355328) ∧ (∀ (M : Mem), (k + 1) * 32 ≤ 140737488355328 ∧ k + 1 ≤ 140737488355328) ∧ c2C (eI (gE xs k)) (eI (gE ys k)) fun (a b : Nat) => (∀ (M : Mem), (k + 1) * 32 ≤ 140737488355328 ∧ k + 1 ≤ 140737488355328) ∧ K [It.rnd [0, 0, 1, 0, 1, 1, 1, 1, 1, 1, 1, 1, 1, 1] M, It.blk 2, It.at [1, 1, 1, 1, 1, 1, 1, 1, 1, 1, 1]] (St.mk [(1, SV.x 0 []), (2, SV.x 1 []), (0, SV.x 2 []), (6, SV.v (Value.bool false)), (7, SV.o 3), (9, SV.o 4), (10, SV.o 5), (11, SV.o 6), (12, SV.o 7), (13, SV.o 8), (14, SV.v (vi64 (IntKind.wrap IntKind.i64 ((↑k : Int) + (1 : Int)))))] [HO.ext false (Cell.s false 4 nx (cE xs)), HO.ext false (Cell.s false 4 ny (cE ys)), HO.ext false (Cell.s false 7 n (cN l)), HO.rowc 3 1 nd (Ct.fn cd), HO.rowc 63 3 nq (Ct.fn (cQ qs)), HO.rowc 41 4 (k + 1) (Ct.app k (Ct.fn (cE zs)) (Ct.lit 4 [Cell.v (vu64 (0 : Int)), Cell.v (vu64 (0 : Int)), Cell.v (vu64 (0 : Int)), Cell.v (vu64 (0 : Int))])), HO.rowc 41 4 (k + 1) (Ct.app k (Ct.fn (cE us)) (Ct.lit 4 [Cell.v (vu64 (↑(limb (gE xs k) 0) : Int)), Cell.v (vu64 (↑(limb (gE xs k) 1) : Int)), Cell.v (vu64 (↑(limb (gE xs k) 2) : Int)), Cell.v (vu64 (↑(limb (gE xs k) 3) : Int))])), HO.rowc 41 4 (k + 1) (Ct.app k (Ct.fn (cE vs)) (Ct.lit 4 [Cell.v (vu64 (↑(limb (gE ys k) 0) : Int)), Cell.v (vu64 (↑(limb (gE ys k) 1) : Int)), Cell.v (vu64 (↑(limb (gE ys k) 2) : Int)), Cell.v (vu64 (↑(limb (gE ys k) 3) : Int))])), HO.rowc 41 4 (k + 1) (Ct.app k (Ct.fn (cE ws)) (Ct.lit 4 [Cell.v (vu64 (↑(limb (fAd (1 : Int) a b) 0) : Int)), Cell.v (vu64 (↑(limb (fAd (1 : Int) a b) 1) : Int)), Cell.v (vu64 (↑(limb (fAd (1 : Int) a b) 2) : Int)), Cell.v (vu64 (↑(limb (fAd (1 : Int) a b) 3) : Int))]))]) else (∀ (M : Mem), (k + 1) * 32 ≤ 140737488355328 ∧ k + 1 ≤ 140737488355328) ∧ (∀ (M : Mem), (k + 1) * 32 ≤ 140737488355328 ∧ k + 1 ≤ 140737488355328) ∧ (∀ (M : Mem), (k + 1) * 32 ≤ 140737488355328 ∧ k + 1 ≤ 140737488355328) ∧ c2C (eI (gE xs k)) [(7 : Int), (0 : Int), (0 : Int), (0 : Int)] fun (a b : Nat) => (∀ (M : Mem), (k + 1) * 32 ≤ 140737488355328 ∧ k + 1 ≤ 140737488355328) ∧ K [It.rnd [0, 0, 1, 0, 1, 1, 1, 1, 1, 1, 1, 1, 1, 1] M, It.blk 2, It.at [1, 1, 1, 1, 1, 1, 1, 1, 1, 1, 1]] (St.mk [(1, SV.x 0 []), (2, SV.x 1 []), (0, SV.x 2 []), (6, SV.v (Value.bool false)), (7, SV.o 3), (9, SV.o 4), (10, SV.o 5), (11, SV.o 6), (12, SV.o 7), (13, SV.o 8), (14, SV.v (vi64 (IntKind.wrap IntKind.i64 ((↑k : Int) + (1 : Int)))))] [HO.ext false (Cell.s false 4 nx (cE xs)), HO.ext false (Cell.s false 4 ny (cE ys)), HO.ext false (Cell.s false 7 n (cN l)), HO.rowc 3 1 nd (Ct.fn cd), HO.rowc 63 3 nq (Ct.fn (cQ qs)), HO.rowc 41 4 (k + 1) (Ct.app k (Ct.fn (cE zs)) (Ct.lit 4 [Cell.v (vu64 (0 : Int)), Cell.v (vu64 (0 : Int)), Cell.v (vu64 (0 : Int)), Cell.v (vu64 (0 : Int))])), HO.rowc 41 4 (k + 1) (Ct.app k (Ct.fn (cE us)) (Ct.lit 4 [Cell.v (vu64 (↑(limb (gE xs k) 0) : Int)), Cell.v (vu64 (↑(limb (gE xs k) 1) : Int)), Cell.v (vu64 (↑(limb (gE xs k) 2) : Int)), Cell.v (vu64 (↑(limb (gE xs k) 3) : Int))])), HO.rowc 41 4 (k + 1) (Ct.app k (Ct.fn (cE vs)) (Ct.lit 4 [Cell.v (vu64 (7 : Int)), Cell.v (vu64 (0 : Int)), Cell.v (vu64 (0 : Int)), Cell.v (vu64 (0 : Int))])), HO.rowc 41 4 (k + 1) (Ct.app k (Ct.fn (cE ws)) (Ct.lit 4 [Cell.v (vu64 (↑(limb (fAd (1 : Int) a b) 0) : Int)), Cell.v (vu64 (↑(limb (fAd (1 : Int) a b) 1) : Int)), Cell.v (vu64 (↑(limb (fAd (1 : Int) a b) 2) : Int)), Cell.v (vu64 (↑(limb (fAd (1 : Int) a b) 3) : Int))]))]) else bif decide ((↑k : Int) < (↑ny : Int)) then (∀ (M : Mem), (0 : Int) ≤ (↑k : Int) ∧ (↑k : Int) < (↑ny : Int)) ∧ (∀ (M : Mem), k < ny) ∧ (∀ (M : Mem), 0 + 4 ≤ 4) ∧ (∀ (M : Mem), (k + 1) * 32 ≤ 140737488355328 ∧ k + 1 ≤ 140737488355328) ∧ (∀ (M : Mem), (k + 1) * 32 ≤ 140737488355328 ∧ k + 1 ≤ 140737488355328) ∧ (∀ (M : Mem), (k + 1) * 32 ≤ 140737488355328 ∧ k + 1 ≤ 140737488355328) ∧ c2C [IntKind.wrap IntKind.u64 (↑k : Int), (0 : Int), (0 : Int), (0 : Int)] (eI (gE ys k)) fun (a b : Nat) => (∀ (M : Mem), (k + 1) * 32 ≤ 140737488355328 ∧ k + 1 ≤ 140737488355328) ∧ K [It.rnd [0, 0, 1, 0, 1, 1, 1, 1, 1, 1, 1, 1, 1, 1] M, It.blk 2, It.at [1, 1, 1, 1, 1, 1, 1, 1, 1, 1, 1]] (St.mk [(1, SV.x 0 []), (2, SV.x 1 []), (0, SV.x 2 []), (6, SV.v (Value.bool false)), (7, SV.o 3), (9, SV.o 4), (10, SV.o 5), (11, SV.o 6), (12, SV.o 7), (13, SV.o 8), (14, SV.v (vi64 (IntKind.wrap IntKind.i64 ((↑k : Int) + (1 : Int)))))] [HO.ext false (Cell.s false 4 nx (cE xs)), HO.ext false (Cell.s false 4 ny (cE ys)), HO.ext false (Cell.s false 7 n (cN l)), HO.rowc 3 1 nd (Ct.fn cd), HO.rowc 63 3 nq (Ct.fn (cQ qs)), HO.rowc 41 4 (k + 1) (Ct.app k (Ct.fn (cE zs)) (Ct.lit 4 [Cell.v (vu64 (0 : Int)), Cell.v (vu64 (0 : Int)), Cell.v (vu64 (0 : Int)), Cell.v (vu64 (0 : Int))])), HO.rowc 41 4 (k + 1) (Ct.app k (Ct.fn (cE us)) (Ct.lit 4 [Cell.v (vu64 (IntKind.wrap IntKind.u64 (↑k : Int))), Cell.v (vu64 (0 : Int)), Cell.v (vu64 (0 : Int)), Cell.v (vu64 (0 : Int))])), HO.rowc 41 4 (k + 1) (Ct.app k (Ct.fn (cE vs)) (Ct.lit 4 [Cell.v (vu64 (↑(limb (gE ys k) 0) : Int)), Cell.v (vu64 (↑(limb (gE ys k) 1) : Int)), Cell.v (vu64 (↑(limb (gE ys k) 2) : Int)), Cell.v (vu64 (↑(limb (gE ys k) 3) : Int))])), HO.rowc 41 4 (k + 1) (Ct.app k (Ct.fn (cE ws)) (Ct.lit 4 [Cell.v (vu64 (↑(limb (fAd (1 : Int) a b) 0) : Int)), Cell.v (vu64 (↑(limb (fAd (1 : Int) a b) 1) : Int)), Cell.v (vu64 (↑(limb (fAd (1 : Int) a b) 2) : Int)), Cell.v (vu64 (↑(limb (fAd (1 : Int) a b) 3) : Int))]))]) else (∀ (M : Mem), (k + 1) * 32 ≤ 140737488355328 ∧ k + 1 ≤ 140737488355328) ∧ (∀ (M : Mem), (k + 1) * 32 ≤ 140737488355328 ∧ k + 1 ≤ 140737488355328) ∧ (∀ (M : Mem), (k + 1) * 32 ≤ 140737488355328 ∧ k + 1 ≤ 140737488355328) ∧ c2C [IntKind.wrap IntKind.u64 (↑k : Int), (0 : Int), (0 : Int), (0 : Int)] [(7 : Int), (0 : Int), (0 : Int), (0 : Int)] fun (a b : Nat) => (∀ (M : Mem), (k + 1) * 32 ≤ 140737488355328 ∧ k + 1 ≤ 140737488355328) ∧ K [It.rnd [0, 0, 1, 0, 1, 1, 1, 1, 1, 1, 1, 1, 1, 1] M, It.blk 2, It.at [1, 1, 1, 1, 1, 1, 1, 1, 1, 1, 1]] (St.mk [(1, SV.x 0 []), (2, SV.x 1 []), (0, SV.x 2 []), (6, SV.v (Value.bool false)), (7, SV.o 3), (9, SV.o 4), (10, SV.o 5), (11, SV.o 6), (12, SV.o 7), (13, SV.o 8), (14, SV.v (vi64 (IntKind.wrap IntKind.i64 ((↑k : Int) + (1 : Int)))))] [HO.ext false (Cell.s false 4 nx (cE xs)), HO.ext false (Cell.s false 4 ny (cE ys)), HO.ext false (Cell.s false 7 n (cN l)), HO.rowc 3 1 nd (Ct.fn cd), HO.rowc 63 3 nq (Ct.fn (cQ qs)), HO.rowc 41 4 (k + 1) (Ct.app k (Ct.fn (cE zs)) (Ct.lit 4 [Cell.v (vu64 (0 : Int)), Cell.v (vu64 (0 : Int)), Cell.v (vu64 (0 : Int)), Cell.v (vu64 (0 : Int))])), HO.rowc 41 4 (k + 1) (Ct.app k (Ct.fn (cE us)) (Ct.lit 4 [Cell.v (vu64 (IntKind.wrap IntKind.u64 (↑k : Int))), Cell.v (vu64 (0 : Int)), Cell.v (vu64 (0 : Int)), Cell.v (vu64 (0 : Int))])), HO.rowc 41 4 (k + 1) (Ct.app k (Ct.fn (cE vs)) (Ct.lit 4 [Cell.v (vu64 (7 : Int)), Cell.v (vu64 (0 : Int)), Cell.v (vu64 (0 : Int)), Cell.v (vu64 (0 : Int))])), HO.rowc 41 4 (k + 1) (Ct.app k (Ct.fn (cE ws)) (Ct.lit 4 [Cell.v (vu64 (↑(limb (fAd (1 : Int) a b) 0) : Int)), Cell.v (vu64 (↑(limb (fAd (1 : Int) a b) 1) : Int)), Cell.v (vu64 (↑(limb (fAd (1 : Int) a b) 2) : Int)), Cell.v (vu64 (↑(limb (fAd (1 : Int) a b) 3) : Int))]))]) else ∃ (l_1 : List Nd), n = List.length l_1 ∧ IsC n 7 (cN l) (cN l_1) ∧ List.length l_1 ≤ 2513169434916 ∧ vlC (List.length l_1) nq k (cN l_1) (cQ qs) (cE zs) fun (l_2 : List Nd) (qs_1 : List Qy) (vs_1 : List Nat) => ∃ (l_3 : List Nd), n = List.length l_3 ∧ IsC n 7 (cN l) (cN l_3) ∧ List.length l_3 ≤ 2513169434916 ∧ vlC (List.length l_3) nq k (cN l_3) (cQ qs) (cE us) fun (l_4 : List Nd) (qs_2 : List Qy) (vs_2 : List Nat) => ∃ (l_5 : List Nd), n = List.length l_5 ∧ IsC n 7 (cN l) (cN l_5) ∧ List.length l_5 ≤ 2513169434916 ∧ vlC (List.length l_5) nq k (cN l_5) (cQ qs) (cE vs) fun (l_6 : List Nd) (qs_3 : List Qy) (vs : List Nat) => ∃ (l_7 : List Nd), n = List.length l_7 ∧ IsC n 7 (cN l) (cN l_7) ∧ List.length l_7 ≤ 2513169434916 ∧ vlC (List.length l_7) nq k (cN l_7) (cQ qs) (cE ws) fun (l_8 : List Nd) (qs : List Qy) (vs_3 : List Nat) => bif !(vlR (1 : Int) qs_1 vs_1 l_2).2 == (0 : Int) then bif (vlR (1 : Int) qs_1 vs_1 l_2).2 == (110 : Int) then R (SV.v (Value.bool ((↑nd : Int) == (0 : Int)))) [] else R (SV.v (Value.bool false)) [] else K [It.at [0, 1, 0, 1, 1, 1, 1, 1, 1, 1, 1, 1, 1, 1, 1, 1, 1, 1, 1], It.blk 4, It.at [1, 1, 1, 1, 1, 1, 1, 1, 1, 1, 1, 1, 1, 1, 1, 1, 1]] (St.mk [(0, SV.x 0 []), (6, SV.v (Value.bool false)), (17, SV.o 1), (19, SV.o 2), (21, SV.o 3), (23, SV.o 4), (25, SV.v (vi64 (0 : Int)))] [HO.ext false (Cell.s false 7 n (cN l)), HO.rowc 41 4 (List.length (vlR (1 : Int) qs_1 vs_1 l_2).1) (Ct.fn (cE (vlR (1 : Int) qs_1 vs_1 l_2).1)), HO.rowc 41 4 (List.length (vlR (1 : Int) qs_2 vs_2 l_4).1) (Ct.fn (cE (vlR (1 : Int) qs_2 vs_2 l_4).1)), HO.rowc 41 4 (List.length (vlR (1 : Int) qs_3 vs l_6).1) (Ct.fn (cE (vlR (1 : Int) qs_3 vs l_6).1)), HO.rowc 41 4 (List.length (vlR (1 : Int) qs vs_3 l_8).1) (Ct.fn (cE (vlR (1 : Int) qs vs_3 l_8).1))])) := by kernel_rfl
theorem ei3 (l : List Nd) (o p r s : List Nat) (n no np nr ns k M : Nat) (K : List It → St → Prop) (R : SV → List HO → Prop) : W (xwp Try.prog X K31 [] 60 (fxOf Try.f9 [] [⟨[0,1,0,1,1,1,1], [0,1,2,6,7,8], []⟩, ⟨[0,1,0,1,1,1,1,1,1,1,1,1,1], [1,2,0,6,7,9,10,11,12,13,14], []⟩, ⟨[0,1,0,1,1,1,1,1,1,1,1,1,1,1,1,1,1,1,1], [0,6,17,19,21,23,25], []⟩]) [] (.at [0,0,1,0,1,1,1,1,1,1,1,1,1,1,1,1,1,1,1,1] :: .rnd [0,0,1,0,1,1,1,1,1,1,1,1,1,1,1,1,1,1,1,1] M :: [.blk 4, .at [1, 1, 1, 1, 1, 1, 1, 1, 1, 1, 1, 1, 1, 1, 1, 1, 1]]) ⟨[(0, .x 0 []), (6, .v (.bool false)), (17, .o 1), (19, .o 2), (21, .o 3), (23, .o 4), (25, .v (.int .i64 (k : Int)))], [.ext false (.s false 7 n (cN l)), .rowc 41 4 no (.fn (cE o)), .rowc 41 4 np (.fn (cE p)), .rowc 41 4 nr (.fn (cE r)), .rowc 41 4 ns (.fn (cE s))]⟩ K R) = W (bif decide ((↑k : Int) < (↑n : Int)) then bif decide ((↑np : Int) ≤ (↑k : Int)) then R (SV.v (Value.bool false)) [] else bif decide ((↑nr : Int) ≤ (↑k : Int)) then R (SV.v (Value.bool false)) [] else bif decide ((↑ns : Int) ≤ (↑k : Int)) then R (SV.v (Value.bool false)) [] else (∀ (M : Mem), (0 : Int) ≤ (↑k : Int) ∧ (↑k : Int) < (↑ns : Int)) ∧ (∀ (M : Mem), k < ns) ∧ (∀ (M : Mem), (0 : Int) ≤ (↑k : Int) ∧ (↑k : Int) < (↑no : Int)) ∧ (∀ (M : Mem), k < no) ∧ (∀ (M : Mem), (0 : Int) ≤ (↑k : Int) ∧ (↑k : Int) < (↑np : Int)) ∧ (∀ (M : Mem), k < np) ∧ (∀ (M : Mem), (0 : Int) ≤ (↑k : Int) ∧ (↑k : Int) < (↑nr : Int)) ∧ (∀ (M : Mem), k < nr) ∧ c2C (eI (gE s k)) (eI (gE o k)) fun (a b : Nat) => c2C (eI (gE p k)) (eI (gE r k)) fun (a_1 b_1 : Nat) => bif !decide ((eI (fAd (1 : Int) a b)) = (eI (fAd (1 : Int) a_1 b_1))) then R (SV.v (Value.bool false)) [] else K [It.rnd [0, 0, 1, 0, 1, 1, 1, 1, 1, 1, 1, 1, 1, 1, 1, 1, 1, 1, 1, 1] M, It.blk 4, It.at [1, 1, 1, 1, 1, 1, 1, 1, 1, 1, 1, 1, 1, 1, 1, 1, 1]] (St.mk [(0, SV.x 0 []), (6, SV.v (Value.bool false)), (17, SV.o 1), (19, SV.o 2), (21, SV.o 3), (23, SV.o 4), (25, SV.v (vi64 (IntKind.wrap IntKind.i64 ((↑k : Int) + (1 : Int)))))] [HO.ext false (Cell.s false 7 n (cN l)), HO.rowc 41 4 no (Ct.fn (cE o)), HO.rowc 41 4 np (Ct.fn (cE p)), HO.rowc 41 4 nr (Ct.fn (cE r)), HO.rowc 41 4 ns (Ct.fn (cE s))]) else R (SV.v (Value.bool true)) []) := by kernel_rfl
theorem el_3 (l : List Nd) (o p r s : List Nat) (hl : l.length ≤ 64) (e0 : o.length = l.length) (e1 : p.length = l.length) (e2 : r.length = l.length) (e3 : s.length = l.length) (t0 : ∀ v ∈ o, v < top) (t1 : ∀ v ∈ p, v < top) (t2 : ∀ v ∈ r, v < top) (t3 : ∀ v ∈ s, v < top)
    (h : ∀ k, k < l.length → fAd 1 (gE s k) (gE o k) = fAd 1 (gE p k) (gE r k)) (Q : SV → List HO → Prop) (hq : Q (.v (.bool true)) []) : ∀ (d k : Nat), k + d = l.length →
    FOk Try.prog Try.f9 Q (.rnd [0,0,1,0,1,1,1,1,1,1,1,1,1,1,1,1,1,1,1,1] (d + 1) :: [.blk 4, .at [1, 1, 1, 1, 1, 1, 1, 1, 1, 1, 1, 1, 1, 1, 1, 1, 1]]) ⟨[(0, .x 0 []), (6, .v (.bool false)), (17, .o 1), (19, .o 2), (21, .o 3), (23, .o 4), (25, .v (.int .i64 (k : Int)))], [.ext false (.s false 7 l.length (cN l)), .rowc 41 4 o.length (.fn (cE o)), .rowc 41 4 p.length (.fn (cE p)), .rowc 41 4 r.length (.fn (cE r)), .rowc 41 4 s.length (.fn (cE s))]⟩
  | 0, k, hd => by
    refine FOk.rnd (run_sound hm 60 ((ei3 l o p r s l.length o.length p.length r.length s.length k 0 _ _).mpr ⟨?_⟩))
    rw [cond_dec, if_neg (by omega)]
    exact hq
  | d + 1, k, hd => by
    refine FOk.rnd (run_sound hm 60 ((ei3 l o p r s l.length o.length p.length r.length s.length k (d + 1) _ _).mpr ⟨?_⟩))
    rw [cond_dec, if_pos (by omega), cond_dec, if_neg (by omega), cond_dec, if_neg (by omega), cond_dec, if_neg (by omega)]
    refine And.intro (fun _ => by omega) (And.intro (fun _ => by omega) (And.intro (fun _ => by omega) (And.intro (fun _ => by omega) (And.intro (fun _ => by omega) (And.intro (fun _ => by omega) (And.intro (fun _ => by omega) (And.intro (fun _ => by omega) ?_)))))))
    refine c2C_mk _ _ (gE_top t3 k) (gE_top t0 k) (c2C_mk _ _ (gE_top t1 k) (gE_top t2 k) ?_)
    rw [h k (by omega), decide_eq_true rfl, Bool.not_true, cond_false, wrap_inc _ (by omega)]
    exact el_3 l o p r s hl e0 e1 e2 e3 t0 t1 t2 t3 h Q hq d (k + 1) (by omega)
theorem vlR_top (s : Int) (qs : List Qy) (vs : List Nat) (l : List Nd) : ∀ v ∈ (vlR s qs vs l).1, v < top := by
  have gen : ∀ (l : List Nd) (pre out : List Nat), (∀ v ∈ pre, v < top) → valsN s qs vs pre l = some out → ∀ v ∈ out, v < top := by
    intro l
    induction l with
    | nil => intro pre out hp h; simp only [valsN, Option.some.injEq] at h; subst h; exact hp
    | cons x t ih =>
      intro pre out hp h
      rw [valsN] at h
      split at h
      · cases h
      · refine ih _ out (fun v hv => ?_) h
        rcases List.mem_append.1 hv with hv | hv
        · exact hp v hv
        · rw [List.mem_singleton] at hv; rw [hv]; exact fAd_top _ _ _
  unfold vlR
  split
  · intro v hv; cases hv
  · split
    · intro v hv; cases hv
    · split
      · intro v hv; cases hv
      · split
        · intro v hv; cases hv
        · rename_i out h; exact gen l [] out (fun v hv => by cases hv) h
theorem vlR_ok {s : Int} {qs : List Qy} {vs : List Nat} {l : List Nd} (hs : fP s ≠ 0) (ho : ordN 0 l = true) (hl : vs.length = qs.length) (hh : hasQ qs l) : ∃ out, valsN s qs vs [] l = some out ∧ vlR s qs vs l = (out, 0) ∧ out.length = l.length := by
  obtain ⟨out, h⟩ := valsN_total (s := s) (qs := qs) (vs := vs) l [] hh (ordN_op l 0 ho)
  refine ⟨out, h, ?_, by have := (valsN_pre l [] out h).2; simpa using this⟩
  rw [vlR, if_neg hs, if_neg (by rw [ho]; simp), if_neg (by omega), h]
theorem vlR_no {s : Int} {qs : List Qy} {vs : List Nat} {l : List Nd} (hs : fP s ≠ 0) (ho : ordN 0 l = false) : vlR s qs vs l = ([], 110) := by
  rw [vlR, if_neg hs, if_pos ho]
theorem el_2 (l : List Nd) (xs ys : List Nat) (hl : l.length ≤ 64) (hv : ∀ x ∈ l, x.v < top) (hx : ∀ v ∈ xs, v < top) (hy : ∀ v ∈ ys, v < top) (hdeg : ∀ k, k < (degrees l).length → gI (degrees l) k ≤ 1) (Q : SV → List HO → Prop) (hq : Q (.v (.bool true)) []) : ∀ (d k : Nat), k + d = (qsN [] l).length →
    FOk Try.prog Try.f9 Q (.rnd [0,0,1,0,1,1,1,1,1,1,1,1,1,1] (d + 1) :: [.blk 2, .at [1,1,1,1,1,1,1,1,1,1,1]]) ⟨[(1, .x 0 []), (2, .x 1 []), (0, .x 2 []), (6, .v (.bool false)), (7, .o 3), (9, .o 4), (10, .o 5), (11, .o 6), (12, .o 7), (13, .o 8), (14, .v (.int .i64 (k : Int)))], [.ext false (.s false 4 xs.length (cE xs)), .ext false (.s false 4 ys.length (cE ys)), .ext false (.s false 7 l.length (cN l)), .rowc 3 1 (degrees l).length (.fn (cI (degrees l))), .rowc 63 3 (qsN [] l).length (.fn (cQ (qsN [] l))), .rowc 41 4 k (.fn (cE ((List.range k).map (fun _ => 0)))), .rowc 41 4 k (.fn (cE ((List.range k).map (fun i => if i < xs.length then gE xs i else i)))), .rowc 41 4 k (.fn (cE ((List.range k).map (fun i => if i < ys.length then gE ys i else 7)))), .rowc 41 4 k (.fn (cE ((List.range k).map (fun i => fAd 1 (if i < xs.length then gE xs i else i) (if i < ys.length then gE ys i else 7)))))]⟩
  | 0, k, hd => by
    have q := qsN_len l []
    simp only [List.length_nil] at q
    have hk : k = (qsN [] l).length := by omega
    refine FOk.rnd (run_sound hm 60 ((ei2 l xs ys _ _ (qsN [] l) ((List.range k).map (fun _ => 0)) ((List.range k).map (fun i => if i < xs.length then gE xs i else i)) ((List.range k).map (fun i => if i < ys.length then gE ys i else 7)) ((List.range k).map (fun i => fAd 1 (if i < xs.length then gE xs i else i) (if i < ys.length then gE ys i else 7))) l.length xs.length ys.length _ k 0 _ _).mpr ⟨?_⟩))
    rw [cond_dec, if_neg (by omega)]
    have tx : ∀ i : Nat, i < k → (if i < xs.length then gE xs i else i) < top := fun i hi => by
      split
      · exact gE_top hx i
      · exact small_top (by omega)
    have ty : ∀ i : Nat, (if i < ys.length then gE ys i else 7) < top := fun i => by
      split
      · exact gE_top hy i
      · exact small_top (by omega)
    have mt : ∀ g : Nat → Nat, (∀ i, i < k → g i < top) → ∀ v ∈ (List.range k).map g, v < top := fun g hg v hv => by
      obtain ⟨i, hi, rfl⟩ := List.mem_map.1 hv
      exact hg i (List.mem_range.1 hi)
    refine ⟨l, rfl, IsC.refl _ _ _, by omega, ⟨⟨l, qsN [] l, _, rfl, IsC.refl _ _ _, rfl, IsC.refl _ _ _, (by simp), IsC.refl _ _ _, by omega, by omega, hv, mt _ (fun i _ => small_top (by omega)), ?_⟩⟩⟩
    refine ⟨l, rfl, IsC.refl _ _ _, by omega, ⟨⟨l, qsN [] l, _, rfl, IsC.refl _ _ _, rfl, IsC.refl _ _ _, (by simp), IsC.refl _ _ _, by omega, by omega, hv, mt _ tx, ?_⟩⟩⟩
    refine ⟨l, rfl, IsC.refl _ _ _, by omega, ⟨⟨l, qsN [] l, _, rfl, IsC.refl _ _ _, rfl, IsC.refl _ _ _, (by simp), IsC.refl _ _ _, by omega, by omega, hv, mt _ (fun i _ => ty i), ?_⟩⟩⟩
    refine ⟨l, rfl, IsC.refl _ _ _, by omega, ⟨⟨l, qsN [] l, _, rfl, IsC.refl _ _ _, rfl, IsC.refl _ _ _, (by simp), IsC.refl _ _ _, by omega, by omega, hv, mt _ (fun i _ => fAd_top _ _ _), ?_⟩⟩⟩
    have h1 : fP 1 ≠ 0 := by rw [fP_1]; omega
    by_cases ho : ordN 0 l = true
    · obtain ⟨o, a0, b0, c0⟩ := vlR_ok (s := 1) (vs := (List.range k).map (fun _ => 0)) h1 ho (by simp; omega) (qsN_has l [])
      obtain ⟨p, a1, b1, c1⟩ := vlR_ok (s := 1) (vs := (List.range k).map (fun i => if i < xs.length then gE xs i else i)) h1 ho (by simp; omega) (qsN_has l [])
      obtain ⟨t, a2, b2, c2⟩ := vlR_ok (s := 1) (vs := (List.range k).map (fun i => if i < ys.length then gE ys i else 7)) h1 ho (by simp; omega) (qsN_has l [])
      obtain ⟨s, a3, b3, c3⟩ := vlR_ok (s := 1) (vs := (List.range k).map (fun i => fAd 1 (if i < xs.length then gE xs i else i) (if i < ys.length then gE ys i else 7))) h1 ho (by simp; omega) (qsN_has l [])
      have u0 := vlR_top 1 (qsN [] l) ((List.range k).map (fun _ => 0)) l
      have u1 := vlR_top 1 (qsN [] l) ((List.range k).map (fun i => if i < xs.length then gE xs i else i)) l
      have u2 := vlR_top 1 (qsN [] l) ((List.range k).map (fun i => if i < ys.length then gE ys i else 7)) l
      have u3 := vlR_top 1 (qsN [] l) ((List.range k).map (fun i => fAd 1 (if i < xs.length then gE xs i else i) (if i < ys.length then gE ys i else 7))) l
      rw [b0] at u0
      rw [b1] at u1
      rw [b2] at u2
      rw [b3] at u3
      rw [b0, b1, b2, b3]
      have hdl : (degrees l).length = l.length := by rw [degrees, if_pos ho, degsN_length]; simp
      have hlin := lin_law ho (fun k hk => hdeg k (by omega)) (fun i hi => gE_map _ (by omega)) (fun i hi => by rw [gE_map _ (by omega), gE_map _ (by omega), gE_map _ (by omega)]) a0 a1 a2 a3 l.length
      exact FOk.loop (l.length + 1) (by kernel_rfl) (el_3 l o p t s hl c0 c1 c2 c3 u0 u1 u2 u3 (fun i hi => by rw [fAd_1, fAd_1]; exact (hlin i (by omega) hi).2) Q hq l.length 0 (by omega))
    · have ho : ordN 0 l = false := by simpa using ho
      have hd0 : (degrees l).length = 0 := by rw [degrees, if_neg (by rw [ho]; simp)]; rfl
      rw [vlR_no h1 ho, hd0]
      exact hq
  | d + 1, k, hd => by
    have q := qsN_len l []
    simp only [List.length_nil] at q
    have yes : ∀ u v : Nat, u = (if k < xs.length then gE xs k else k) → v = (if k < ys.length then gE ys k else 7) → FOk Try.prog Try.f9 Q (.rnd [0,0,1,0,1,1,1,1,1,1,1,1,1,1] (d + 1) :: [.blk 2, .at [1,1,1,1,1,1,1,1,1,1,1]]) ⟨[(1, .x 0 []), (2, .x 1 []), (0, .x 2 []), (6, .v (.bool false)), (7, .o 3), (9, .o 4), (10, .o 5), (11, .o 6), (12, .o 7), (13, .o 8), (14, .v (.int .i64 (IntKind.wrap .i64 ((k : Int) + 1))))], [.ext false (.s false 4 xs.length (cE xs)), .ext false (.s false 4 ys.length (cE ys)), .ext false (.s false 7 l.length (cN l)), .rowc 3 1 (degrees l).length (.fn (cI (degrees l))), .rowc 63 3 (qsN [] l).length (.fn (cQ (qsN [] l))), .rowc 41 4 (k + 1) (.app k (.fn (cE ((List.range k).map (fun _ => 0)))) (.lit 4 (eC 0))), .rowc 41 4 (k + 1) (.app k (.fn (cE ((List.range k).map (fun i => if i < xs.length then gE xs i else i)))) (.lit 4 (eC u))), .rowc 41 4 (k + 1) (.app k (.fn (cE ((List.range k).map (fun i => if i < ys.length then gE ys i else 7)))) (.lit 4 (eC v))), .rowc 41 4 (k + 1) (.app k (.fn (cE ((List.range k).map (fun i => fAd 1 (if i < xs.length then gE xs i else i) (if i < ys.length then gE ys i else 7))))) (.lit 4 (eC (fAd 1 u v))))]⟩ := fun u v hu hv' => by
      rw [wrap_inc _ (by omega), hu, hv']
      exact FOk.cv (el_2 l xs ys hl hv hx hy hdeg Q hq d (k + 1) (by omega)) ⟨HE.refl _, HE.refl _, HE.refl _, HE.refl _, HE.refl _, ⟨rfl, rfl, rfl, cE_map _ k⟩, ⟨rfl, rfl, rfl, cE_map _ k⟩, ⟨rfl, rfl, rfl, cE_map _ k⟩, ⟨rfl, rfl, rfl, cE_map _ k⟩, trivial⟩
    refine FOk.rnd (run_sound hm 60 ((ei2 l xs ys _ _ (qsN [] l) ((List.range k).map (fun _ => 0)) ((List.range k).map (fun i => if i < xs.length then gE xs i else i)) ((List.range k).map (fun i => if i < ys.length then gE ys i else 7)) ((List.range k).map (fun i => fAd 1 (if i < xs.length then gE xs i else i) (if i < ys.length then gE ys i else 7))) l.length xs.length ys.length _ k (d + 1) _ _).mpr ⟨?_⟩))
    have i7 := (eI_small 7 (by omega)).symm
    have c7 := (eC_small 7 (by omega)).symm
    have c0 := (eC_small 0 (by omega)).symm
    have ik := (eI_small k (by omega)).symm
    have ck := (eC_small k (by omega)).symm
    simp only [Int.cast_ofNat_Int] at i7 c7 c0
    rw [cond_dec, if_pos (by omega), wrapN k (by omega)]
    rw [i7, c7, ik, ck]
    have tk : k < top := small_top (by omega)
    have t7 : (7 : Nat) < top := small_top (by omega)
    simp only [cond_dec]
    refine And.intro (fun _ => by omega) (And.intro (fun _ => by omega) (ite_intro (fun h1 => ?_) (fun h1 => ?_)))
    · refine And.intro (fun _ => by omega) (And.intro (fun _ => by omega) (And.intro (fun _ => by omega) (ite_intro (fun h2 => ?_) (fun h2 => ?_))))
      · refine And.intro (fun _ => by omega) (And.intro (fun _ => by omega) (And.intro (fun _ => by omega) (And.intro (fun _ => by omega) (And.intro (fun _ => by omega) (And.intro (fun _ => by omega) (c2C_mk _ _ (gE_top hx k) (gE_top hy k) (And.intro (fun _ => by omega) ?_)))))))
        rw [c0]
        exact yes _ _ (by rw [if_pos (by omega)]) (by rw [if_pos (by omega)])
      · refine And.intro (fun _ => by omega) (And.intro (fun _ => by omega) (And.intro (fun _ => by omega) (c2C_mk _ _ (gE_top hx k) t7 (And.intro (fun _ => by omega) ?_))))
        rw [c0]
        exact yes _ _ (by rw [if_pos (by omega)]) (by rw [if_neg (by omega)])
    · refine ite_intro (fun h2 => ?_) (fun h2 => ?_)
      · refine And.intro (fun _ => by omega) (And.intro (fun _ => by omega) (And.intro (fun _ => by omega) (And.intro (fun _ => by omega) (And.intro (fun _ => by omega) (And.intro (fun _ => by omega) (c2C_mk _ _ tk (gE_top hy k) (And.intro (fun _ => by omega) ?_)))))))
        rw [c0]
        exact yes _ _ (by rw [if_neg (by omega)]) (by rw [if_pos (by omega)])
      · refine And.intro (fun _ => by omega) (And.intro (fun _ => by omega) (And.intro (fun _ => by omega) (c2C_mk _ _ tk t7 (And.intro (fun _ => by omega) ?_))))
        rw [c0]
        exact yes _ _ (by rw [if_neg (by omega)]) (by rw [if_neg (by omega)])
theorem el_1 (l : List Nd) (xs ys : List Nat) (hl : l.length ≤ 64) (hv : ∀ x ∈ l, x.v < top) (hx : ∀ v ∈ xs, v < top) (hy : ∀ v ∈ ys, v < top) (Q : SV → List HO → Prop) (hq : Q (.v (.bool true)) []) : ∀ (d k : Nat), k + d = (degrees l).length → (∀ j, j < k → gI (degrees l) j ≤ 1) →
    FOk Try.prog Try.f9 Q (.rnd [0,0,1,0,1,1,1,1] (d + 1) :: [.blk 0, .at [1,1,1,1,1]]) ⟨[(0, .x 0 []), (1, .x 1 []), (2, .x 2 []), (6, .v (.bool false)), (7, .o 3), (8, .v (.int .i64 (k : Int)))], [.ext false (.s false 7 l.length (cN l)), .ext false (.s false 4 xs.length (cE xs)), .ext false (.s false 4 ys.length (cE ys)), .rowc 3 1 (degrees l).length (.fn (cI (degrees l)))]⟩
  | 0, k, hd, hj => by
    have dl := degrees_len l
    refine FOk.rnd (run_sound hm 60 ((ei1 l xs ys 0 0 0 k 0 _ _).mpr ⟨?_⟩))
    rw [cond_dec, if_neg (by omega)]
    refine ⟨l, rfl, IsC.refl _ _ _, by omega, l, rfl, IsC.refl _ _ _, by omega, ?_⟩
    exact FOk.loop ((qsN [] l).length + 1) (by kernel_rfl) (FOk.cv (el_2 l xs ys hl hv hx hy (fun j h => hj j (by omega)) Q hq (qsN [] l).length 0 (by omega)) ⟨HE.refl _, HE.refl _, HE.refl _, HE.refl _, HE.refl _, ⟨rfl, rfl, rfl, fun k hk => by omega⟩, ⟨rfl, rfl, rfl, fun k hk => by omega⟩, ⟨rfl, rfl, rfl, fun k hk => by omega⟩, ⟨rfl, rfl, rfl, fun k hk => by omega⟩, trivial⟩)
  | d + 1, k, hd, hj => by
    have dl := degrees_len l
    refine FOk.rnd (run_sound hm 60 ((ei1 l xs ys 0 0 0 k (d + 1) _ _).mpr ⟨?_⟩))
    rw [cond_dec, if_pos (by omega)]
    refine And.intro (fun _ => by omega) (And.intro (fun _ => by omega) ?_)
    rw [cond_dec]
    refine ite_intro (fun _ => hq) (fun h => ?_)
    rw [wrap_inc _ (by omega)]
    exact el_1 l xs ys hl hv hx hy Q hq d (k + 1) (by omega) fun j h2 => by
      by_cases e : j = k
      · rw [e]; omega
      · exact hj j (by omega)
theorem bEl : Try.f9.body.isSome = true := by kernel_rfl
theorem nEl : Nat.ble [SV.x 0 [], .x 1 [], .x 2 []].length Try.f9.ntmps = true := by kernel_rfl
theorem exprLinear_ok (l : List Nd) (xs ys : List Nat) (hv : ∀ x ∈ l, x.v < top) (hx : ∀ v ∈ xs, v < top) (hy : ∀ v ∈ ys, v < top) (Q : SV → List HO → Prop) (hq : Q (.v (.bool true)) []) : FnOk Try.prog 9 [.x 0 [], .x 1 [], .x 2 []] [.ext false (.s false 7 l.length (cN l)), .ext false (.s false 4 xs.length (cE xs)), .ext false (.s false 4 ys.length (cE ys))] Q := by
  refine fn_of_ok Try.func9 bEl ?_ ?_
  · exact nEl
  refine run_sound hm 60 ((eiS l xs ys _ _).mpr ⟨?_⟩)
  rw [cond_dec]
  refine ite_intro (fun _ => hq) (fun h => ?_)
  have hl : l.length ≤ 64 := by omega
  refine ⟨l, rfl, IsC.refl _ _ _, by omega, l, rfl, IsC.refl _ _ _, by omega, ?_⟩
  exact FOk.loop ((degrees l).length + 1) (by kernel_rfl) (el_1 l xs ys hl hv hx hy Q hq (degrees l).length 0 (by omega) (fun j h => by omega))
end Go.Proofs.Ytpghmnpbfaichaa
