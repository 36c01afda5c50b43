/- The texts Z29 .. Z77 of this proof, one behind the other. -/
import Derived.Test.YtlmjdcbhpffanaaM2
import Derived.Test.YtlmjdcbhpffanaaM1
/- The values of nodes. -/
namespace Go.Sx
open Go.RowKit
theorem FnOk.nilT {P : Program} {m : Nat} {f : FuncId} {args : List SV} {h : List HO} {Q : SV → List HO → Prop} (T : TypeId) (sz : Nat) (k : FnOkM P m f args h fun r h' => Q r h' ∨ (∃ y, r = .tup [.v (.slice none 0 0), .v y] ∧ h' = [] ∧ Q (.tup [.o 0, .v y]) [.rowc T sz 0 (.lit 1 [])])) : FnOkM P m f args h Q := by
  intro F hF w0 e hm0 S hw
  refine (k F hF w0 e hm0 S hw).mono fun E w' hE => ?_
  obtain ⟨e', r, h', hq, h2, h3, h4⟩ := hE
  rcases hq with hq | ⟨y, rfl, rfl, hq⟩
  · exact ⟨e', r, h', hq, h2, h3, h4⟩
  · refine ⟨e'.setR 0 (.slice none 0 0), .tup [.o 0, .v y], _, hq, ⟨Nat.zero_lt_one, trivial, trivial⟩, ?_, by rw [h4]; simp [den, denL, Env.setR]⟩
    exact h3.newRowc hF (w' := w') T sz 0 _ (.slice none 0 0) (fun _ => ⟨[], World.ownsRow_nil w' 0 T sz, fun u hu => (by cases hu), fun k hk => by omega⟩) (fun b hb => by cases hb) ⟨rfl, rfl, rfl, Nat.le_refl _, fun _ _ _ => rfl⟩
end Go.Sx
namespace Go.Pl
open Go.Sx
noncomputable def valD (s : Int) (qs : List Qy) (vs out : List Nat) (x : Nd) : Option Nat :=
  if x.op = 1 then some x.v else if x.op = 5 then some (fNg s (gE out x.a.toNat)) else if x.op = 6 then some (fAd s (gE out x.a.toNat) (gE out x.b.toNat)) else if x.op = 7 then some (fMu s (gE out x.a.toNat) (gE out x.b.toNat)) else if x.op = 8 then some (fMu s x.v (gE out x.a.toNat))
  else if idxF (sameQ x.op x.a x.b) 0 qs < 0 then none else some (gE vs (idxF (sameQ x.op x.a x.b) 0 qs).toNat)
noncomputable def valsN (s : Int) (qs : List Qy) (vs : List Nat) : List Nat → List Nd → Option (List Nat)
  | out, [] => some out
  | out, x :: r => match valD s qs vs out x with
    | none => none
    | some v => valsN s qs vs (out ++ [fAd s v 0]) r
theorem valsN_some {s : Int} {qs : List Qy} {vs out : List Nat} {x : Nd} {r : List Nd} {v : Nat} (h : valD s qs vs out x = some v) : valsN s qs vs out (x :: r) = valsN s qs vs (out ++ [fAd s v 0]) r := by rw [valsN, h]
theorem valsN_none {s : Int} {qs : List Qy} {vs out : List Nat} {x : Nd} {r : List Nd} (h : valD s qs vs out x = none) : valsN s qs vs out (x :: r) = none := by rw [valsN, h]
noncomputable def vlR (s : Int) (qs : List Qy) (vs : List Nat) (l : List Nd) : List Nat × Int :=
  if fP s = 0 then ([], 20) else if ordN 0 l = false then ([], 110) else if vs.length ≠ qs.length then ([], 50) else match valsN s qs vs [] l with
    | none => ([], 50)
    | some out => (out, 0)
theorem idxF_lt {α : Type} (p : α → Bool) : ∀ (l : List α) (k : Nat), idxF p k l < ((k + l.length : Nat) : Int)
  | [], k => by simp only [idxF]; omega
  | x :: r, k => by
    rw [idxF]
    split
    · simp; omega
    · have := idxF_lt p r (k + 1)
      rw [List.length_cons]
      omega
theorem valD_c (s : Int) (qs : List Qy) (vs out : List Nat) {x : Nd} (h : x.op = 1) : valD s qs vs out x = some x.v := by
  unfold valD
  rw [if_pos h]
theorem valD_n (s : Int) (qs : List Qy) (vs out : List Nat) {x : Nd} (h : x.op = 5) : valD s qs vs out x = some (fNg s (gE out x.a.toNat)) := by
  unfold valD
  rw [if_neg (by omega), if_pos h]
theorem valD_a (s : Int) (qs : List Qy) (vs out : List Nat) {x : Nd} (h : x.op = 6) : valD s qs vs out x = some (fAd s (gE out x.a.toNat) (gE out x.b.toNat)) := by
  unfold valD
  rw [if_neg (by omega), if_neg (by omega), if_pos h]
theorem valD_m (s : Int) (qs : List Qy) (vs out : List Nat) {x : Nd} (h : x.op = 7) : valD s qs vs out x = some (fMu s (gE out x.a.toNat) (gE out x.b.toNat)) := by
  unfold valD
  rw [if_neg (by omega), if_neg (by omega), if_neg (by omega), if_pos h]
theorem valD_s (s : Int) (qs : List Qy) (vs out : List Nat) {x : Nd} (h : x.op = 8) : valD s qs vs out x = some (fMu s x.v (gE out x.a.toNat)) := by
  unfold valD
  rw [if_neg (by omega), if_neg (by omega), if_neg (by omega), if_neg (by omega), if_pos h]
theorem valD_q (s : Int) (qs : List Qy) (vs out : List Nat) {x : Nd} (h : 2 ≤ x.op ∧ x.op ≤ 4) : valD s qs vs out x = if idxF (sameQ x.op x.a x.b) 0 qs < 0 then none else some (gE vs (idxF (sameQ x.op x.a x.b) 0 qs).toNat) := by
  unfold valD
  rw [if_neg (by omega), if_neg (by omega), if_neg (by omega), if_neg (by omega), if_neg (by omega)]
theorem fP_top (s : Int) : fP s = 0 ∨ 2 < fP s ∧ 2 * fP s < top := by
  unfold fP
  simp only [top]
  repeat' split
  all_goals omega
theorem fAd_top (s : Int) (a b : Nat) : fAd s a b < top := by
  rw [fAd]
  rcases fP_top s with h | h
  · rw [if_pos h]; exact top0
  · rw [if_neg (by omega)]
    have := fA_lt h.1 a b
    omega
theorem fMu_top (s : Int) (a b : Nat) : fMu s a b < top := by
  rw [fMu]
  rcases fP_top s with h | h
  · rw [if_pos h]; exact top0
  · rw [if_neg (by omega)]
    have := fM_lt h.1 a b
    omega
theorem fNg_top (s : Int) (a : Nat) : fNg s a < top := by
  rw [fNg]
  rcases fP_top s with h | h
  · rw [if_pos h]; exact top0
  · rw [if_neg (by omega)]
    have := fN_lt h.1 a
    omega
theorem gE_top {l : List Nat} (h : ∀ v ∈ l, v < top) (k : Nat) : gE l k < top := by
  unfold gE
  rw [List.getD_eq_getElem?_getD]
  cases hk : l[k]? with
  | none => exact top0
  | some v => exact h v (List.mem_of_getElem? hk)
theorem gN_top {l : List Nd} (h : ∀ x ∈ l, x.v < top) (k : Nat) : (gN l k).v < top := by
  unfold gN
  rw [List.getD_eq_getElem?_getD]
  cases hk : l[k]? with
  | none => exact top0
  | some v => exact h v (List.mem_of_getElem? hk)
theorem cE_snoc {l : List Nat} {k : Nat} (z : Nat) (h : l.length = k) : IsC (k + 1) 4 (Ct.app k (.fn (cE l)) (.lit 4 [.v (.int .u64 (limb z 0 : Nat)), .v (.int .u64 (limb z 1 : Nat)), .v (.int .u64 (limb z 2 : Nat)), .v (.int .u64 (limb z 3 : Nat))])).at (Ct.fn (cE (l ++ [z]))).at := by
  subst h
  exact ofL_snoc (fun (v : Nat) j => .v (.int .u64 (limb v j : Nat))) 0 4 l z _ (fun j hj => by
    match j, hj with
    | 0, _ => rfl
    | 1, _ => rfl
    | 2, _ => rfl
    | 3, _ => rfl)
theorem fE_zero (s : Int) : fE s = 0 ↔ fP s ≠ 0 := by
  rw [fE]; split <;> simp_all
theorem fE_of (s : Int) (h : fP s = 0) : fE s = 20 := by rw [fE, if_pos h]
structure vlC (n nq nv : Nat) (cn cq cv : Nat → Nat → Cell) (k : List Nd → List Qy → List Nat → Prop) : Prop where
  h : ∃ (l : List Nd) (qs : List Qy) (vs : List Nat), n = l.length ∧ IsC n 7 cn (cN l) ∧ nq = qs.length ∧ IsC nq 3 cq (cQ qs) ∧ nv = vs.length ∧ IsC nv 4 cv (cE vs) ∧ l.length ≤ 4398046511104 ∧ qs.length ≤ 4398046511104 ∧ (∀ x ∈ l, x.v < top) ∧ (∀ v ∈ vs, v < top) ∧ k l qs vs
end Go.Pl
namespace Go.Proofs.Ytlmjdcbhpffanaa
open Go.Sx Go.Pl
set_option linter.unusedVariables false
set_option maxRecDepth 100000
theorem vlc (s : Int) (b2 b3 : Bool) (l : List Nd) (qs : List (Int × Int × Int)) (vs out : List Nat) (n nq nv k M : Nat) (K : List It → St → Prop) (R : SV → List HO → Prop) : W (xwp Try.prog X K28 [(136, []), (140, []), (143, []), (151, [])] 60 (fxOf Try.f71 [] [⟨[0,1,0,1,1,1,1,1], [0,2,3,14,47,48,49], []⟩]) [.as 52 (.v (.iface 183 (.agg #[.int .u64 (limb (gN l k).v 0 : Nat), .int .u64 (limb (gN l k).v 1 : Nat), .int .u64 (limb (gN l k).v 2 : Nat), .int .u64 (limb (gN l k).v 3 : Nat)])))] (.at [0,0,1,0,1,1,1,1,1] :: .rnd [0,0,1,0,1,1,1,1,1] M :: [.blk 1, .at [1,1,1,1,1,1]]) ⟨[(0, .v (.int .i64 s)), (2, .x 0 []), (3, .x 1 []), (14, .o 2), (47, .o 3), (48, .v (.int .i64 (n : Int))), (49, .v (.int .i64 (k : Int)))], [.ext b2 (.s false 3 nq (cQ qs)), .ext b3 (.s false 4 nv (cE vs)), .rowc 56 4 k (.fn (cE out)), .rowc 173 1 n (.fn (cS l))]⟩ K R) = W (bif decide ((↑k : Int) < (↑n : Int)) then (∀ M : Mem, (0 : Int) ≤ (↑k : Int) ∧ (↑k : Int) < (↑n : Int)) ∧ (∀ M : Mem, k < n) ∧ (∀ M : Mem, stV (gN l k) = Value.iface 183 (Value.agg (Array.mk [vu64 (↑(limb (gN l k).4 0) : Int), vu64 (↑(limb (gN l k).4 1) : Int), vu64 (↑(limb (gN l k).4 2) : Int), vu64 (↑(limb (gN l k).4 3) : Int)]))) ∧ (∀ M : Mem, 0 + 4 ≤ 4) ∧ (∀ M : Mem, 0 + 4 ≤ 4) ∧ c2C (eI (gN l k).4) [(0 : Int), (0 : Int), (0 : Int), (0 : Int)] fun (a b : Nat) => (∀ M : Mem, (k + 1) * 32 ≤ 140737488355328 ∧ k + 1 ≤ 140737488355328) ∧ K [.rnd [0,0,1,0,1,1,1,1,1] M, .blk 1, .at [1,1,1,1,1,1]] (St.mk [(0, .v (vi64 s)), (2, .x 0 []), (3, .x 1 []), (14, .o 2), (47, .o 3), (48, .v (vi64 (↑n : Int))), (49, .v (vi64 (IntKind.wrap .i64 ((↑k : Int) + (1 : Int)))))] [.ext b2 (.s false 3 nq (cQ qs)), .ext b3 (.s false 4 nv (cE vs)), .rowc 56 4 (k + 1) (.app k (.fn (cE out)) (.lit 4 [.v (vu64 (↑(limb (fAd s a b) 0) : Int)), .v (vu64 (↑(limb (fAd s a b) 1) : Int)), .v (vu64 (↑(limb (fAd s a b) 2) : Int)), .v (vu64 (↑(limb (fAd s a b) 3) : Int))])), .rowc 173 1 n (.fn (cS l))]) else R (.tup [.o 0, .v (vi64 0)]) [.rowc 56 4 k (.fn (cE out))]) := by kernel_rfl
theorem vln (s : Int) (b2 b3 : Bool) (l : List Nd) (qs : List (Int × Int × Int)) (vs out : List Nat) (n nq nv k M : Nat) (K : List It → St → Prop) (R : SV → List HO → Prop) : W (xwp Try.prog X K28 [(136, []), (140, []), (143, []), (151, [])] 60 (fxOf Try.f71 [] [⟨[0,1,0,1,1,1,1,1], [0,2,3,14,47,48,49], []⟩]) [.as 52 (.v (.iface 204 (.agg #[.int .i64 (gN l k).a])))] (.at [0,0,1,0,1,1,1,1,1] :: .rnd [0,0,1,0,1,1,1,1,1] M :: [.blk 1, .at [1,1,1,1,1,1]]) ⟨[(0, .v (.int .i64 s)), (2, .x 0 []), (3, .x 1 []), (14, .o 2), (47, .o 3), (48, .v (.int .i64 (n : Int))), (49, .v (.int .i64 (k : Int)))], [.ext b2 (.s false 3 nq (cQ qs)), .ext b3 (.s false 4 nv (cE vs)), .rowc 56 4 k (.fn (cE out)), .rowc 173 1 n (.fn (cS l))]⟩ K R) = W (bif decide ((↑k : Int) < (↑n : Int)) then (∀ M : Mem, (0 : Int) ≤ (↑k : Int) ∧ (↑k : Int) < (↑n : Int)) ∧ (∀ M : Mem, k < n) ∧ (∀ M : Mem, stV (gN l k) = Value.iface 204 (Value.agg (Array.mk [vi64 (gN l k).2]))) ∧ (∀ M : Mem, (0 : Int) ≤ (gN l k).2 ∧ (gN l k).2 < (↑k : Int)) ∧ (∀ M : Mem, Int.toNat (gN l k).2 < k) ∧ c1C (eI (gE out (Int.toNat (gN l k).2))) fun (a : Nat) => (∀ M : Mem, 0 + 4 ≤ 4) ∧ (∀ M : Mem, 0 + 4 ≤ 4) ∧ c2C (eI (fNg s a)) [(0 : Int), (0 : Int), (0 : Int), (0 : Int)] fun (a b : Nat) => (∀ M : Mem, (k + 1) * 32 ≤ 140737488355328 ∧ k + 1 ≤ 140737488355328) ∧ K [.rnd [0,0,1,0,1,1,1,1,1] M, .blk 1, .at [1,1,1,1,1,1]] (St.mk [(0, .v (vi64 s)), (2, .x 0 []), (3, .x 1 []), (14, .o 2), (47, .o 3), (48, .v (vi64 (↑n : Int))), (49, .v (vi64 (IntKind.wrap .i64 ((↑k : Int) + (1 : Int)))))] [.ext b2 (.s false 3 nq (cQ qs)), .ext b3 (.s false 4 nv (cE vs)), .rowc 56 4 (k + 1) (.app k (.fn (cE out)) (.lit 4 [.v (vu64 (↑(limb (fAd s a b) 0) : Int)), .v (vu64 (↑(limb (fAd s a b) 1) : Int)), .v (vu64 (↑(limb (fAd s a b) 2) : Int)), .v (vu64 (↑(limb (fAd s a b) 3) : Int))])), .rowc 173 1 n (.fn (cS l))]) else R (.tup [.o 0, .v (vi64 0)]) [.rowc 56 4 k (.fn (cE out))]) := by kernel_rfl
theorem vla (s : Int) (b2 b3 : Bool) (l : List Nd) (qs : List (Int × Int × Int)) (vs out : List Nat) (n nq nv k M : Nat) (K : List It → St → Prop) (R : SV → List HO → Prop) : W (xwp Try.prog X K28 [(136, []), (140, []), (143, []), (151, [])] 60 (fxOf Try.f71 [] [⟨[0,1,0,1,1,1,1,1], [0,2,3,14,47,48,49], []⟩]) [.as 52 (.v (.iface 206 (.agg #[.int .i64 (gN l k).a, .int .i64 (gN l k).b])))] (.at [0,0,1,0,1,1,1,1,1] :: .rnd [0,0,1,0,1,1,1,1,1] M :: [.blk 1, .at [1,1,1,1,1,1]]) ⟨[(0, .v (.int .i64 s)), (2, .x 0 []), (3, .x 1 []), (14, .o 2), (47, .o 3), (48, .v (.int .i64 (n : Int))), (49, .v (.int .i64 (k : Int)))], [.ext b2 (.s false 3 nq (cQ qs)), .ext b3 (.s false 4 nv (cE vs)), .rowc 56 4 k (.fn (cE out)), .rowc 173 1 n (.fn (cS l))]⟩ K R) = W (bif decide ((↑k : Int) < (↑n : Int)) then (∀ M : Mem, (0 : Int) ≤ (↑k : Int) ∧ (↑k : Int) < (↑n : Int)) ∧ (∀ M : Mem, k < n) ∧ (∀ M : Mem, stV (gN l k) = Value.iface 206 (Value.agg (Array.mk [vi64 (gN l k).2, vi64 (gN l k).3]))) ∧ (∀ M : Mem, (0 : Int) ≤ (gN l k).2 ∧ (gN l k).2 < (↑k : Int)) ∧ (∀ M : Mem, Int.toNat (gN l k).2 < k) ∧ (∀ M : Mem, (0 : Int) ≤ (gN l k).3 ∧ (gN l k).3 < (↑k : Int)) ∧ (∀ M : Mem, Int.toNat (gN l k).3 < k) ∧ c2C (eI (gE out (Int.toNat (gN l k).2))) (eI (gE out (Int.toNat (gN l k).3))) fun (a b : Nat) => (∀ M : Mem, 0 + 4 ≤ 4) ∧ (∀ M : Mem, 0 + 4 ≤ 4) ∧ c2C (eI (fAd s a b)) [(0 : Int), (0 : Int), (0 : Int), (0 : Int)] fun (a b : Nat) => (∀ M : Mem, (k + 1) * 32 ≤ 140737488355328 ∧ k + 1 ≤ 140737488355328) ∧ K [.rnd [0,0,1,0,1,1,1,1,1] M, .blk 1, .at [1,1,1,1,1,1]] (St.mk [(0, .v (vi64 s)), (2, .x 0 []), (3, .x 1 []), (14, .o 2), (47, .o 3), (48, .v (vi64 (↑n : Int))), (49, .v (vi64 (IntKind.wrap .i64 ((↑k : Int) + (1 : Int)))))] [.ext b2 (.s false 3 nq (cQ qs)), .ext b3 (.s false 4 nv (cE vs)), .rowc 56 4 (k + 1) (.app k (.fn (cE out)) (.lit 4 [.v (vu64 (↑(limb (fAd s a b) 0) : Int)), .v (vu64 (↑(limb (fAd s a b) 1) : Int)), .v (vu64 (↑(limb (fAd s a b) 2) : Int)), .v (vu64 (↑(limb (fAd s a b) 3) : Int))])), .rowc 173 1 n (.fn (cS l))]) else R (.tup [.o 0, .v (vi64 0)]) [.rowc 56 4 k (.fn (cE out))]) := by kernel_rfl
theorem vlm (s : Int) (b2 b3 : Bool) (l : List Nd) (qs : List (Int × Int × Int)) (vs out : List Nat) (n nq nv k M : Nat) (K : List It → St → Prop) (R : SV → List HO → Prop) : W (xwp Try.prog X K28 [(136, []), (140, []), (143, []), (151, [])] 60 (fxOf Try.f71 [] [⟨[0,1,0,1,1,1,1,1], [0,2,3,14,47,48,49], []⟩]) [.as 52 (.v (.iface 207 (.agg #[.int .i64 (gN l k).a, .int .i64 (gN l k).b])))] (.at [0,0,1,0,1,1,1,1,1] :: .rnd [0,0,1,0,1,1,1,1,1] M :: [.blk 1, .at [1,1,1,1,1,1]]) ⟨[(0, .v (.int .i64 s)), (2, .x 0 []), (3, .x 1 []), (14, .o 2), (47, .o 3), (48, .v (.int .i64 (n : Int))), (49, .v (.int .i64 (k : Int)))], [.ext b2 (.s false 3 nq (cQ qs)), .ext b3 (.s false 4 nv (cE vs)), .rowc 56 4 k (.fn (cE out)), .rowc 173 1 n (.fn (cS l))]⟩ K R) = W (bif decide ((↑k : Int) < (↑n : Int)) then (∀ M : Mem, (0 : Int) ≤ (↑k : Int) ∧ (↑k : Int) < (↑n : Int)) ∧ (∀ M : Mem, k < n) ∧ (∀ M : Mem, stV (gN l k) = Value.iface 207 (Value.agg (Array.mk [vi64 (gN l k).2, vi64 (gN l k).3]))) ∧ (∀ M : Mem, (0 : Int) ≤ (gN l k).2 ∧ (gN l k).2 < (↑k : Int)) ∧ (∀ M : Mem, Int.toNat (gN l k).2 < k) ∧ (∀ M : Mem, (0 : Int) ≤ (gN l k).3 ∧ (gN l k).3 < (↑k : Int)) ∧ (∀ M : Mem, Int.toNat (gN l k).3 < k) ∧ c2C (eI (gE out (Int.toNat (gN l k).2))) (eI (gE out (Int.toNat (gN l k).3))) fun (a b : Nat) => (∀ M : Mem, 0 + 4 ≤ 4) ∧ (∀ M : Mem, 0 + 4 ≤ 4) ∧ c2C (eI (fMu s a b)) [(0 : Int), (0 : Int), (0 : Int), (0 : Int)] fun (a b : Nat) => (∀ M : Mem, (k + 1) * 32 ≤ 140737488355328 ∧ k + 1 ≤ 140737488355328) ∧ K [.rnd [0,0,1,0,1,1,1,1,1] M, .blk 1, .at [1,1,1,1,1,1]] (St.mk [(0, .v (vi64 s)), (2, .x 0 []), (3, .x 1 []), (14, .o 2), (47, .o 3), (48, .v (vi64 (↑n : Int))), (49, .v (vi64 (IntKind.wrap .i64 ((↑k : Int) + (1 : Int)))))] [.ext b2 (.s false 3 nq (cQ qs)), .ext b3 (.s false 4 nv (cE vs)), .rowc 56 4 (k + 1) (.app k (.fn (cE out)) (.lit 4 [.v (vu64 (↑(limb (fAd s a b) 0) : Int)), .v (vu64 (↑(limb (fAd s a b) 1) : Int)), .v (vu64 (↑(limb (fAd s a b) 2) : Int)), .v (vu64 (↑(limb (fAd s a b) 3) : Int))])), .rowc 173 1 n (.fn (cS l))]) else R (.tup [.o 0, .v (vi64 0)]) [.rowc 56 4 k (.fn (cE out))]) := by kernel_rfl
theorem vls (s : Int) (b2 b3 : Bool) (l : List Nd) (qs : List (Int × Int × Int)) (vs out : List Nat) (n nq nv k M : Nat) (K : List It → St → Prop) (R : SV → List HO → Prop) : W (xwp Try.prog X K28 [(136, []), (140, []), (143, []), (151, [])] 60 (fxOf Try.f71 [] [⟨[0,1,0,1,1,1,1,1], [0,2,3,14,47,48,49], []⟩]) [.as 52 (.v (.iface 209 (.agg #[.int .i64 (gN l k).a, .int .u64 (limb (gN l k).v 0 : Nat), .int .u64 (limb (gN l k).v 1 : Nat), .int .u64 (limb (gN l k).v 2 : Nat), .int .u64 (limb (gN l k).v 3 : Nat)])))] (.at [0,0,1,0,1,1,1,1,1] :: .rnd [0,0,1,0,1,1,1,1,1] M :: [.blk 1, .at [1,1,1,1,1,1]]) ⟨[(0, .v (.int .i64 s)), (2, .x 0 []), (3, .x 1 []), (14, .o 2), (47, .o 3), (48, .v (.int .i64 (n : Int))), (49, .v (.int .i64 (k : Int)))], [.ext b2 (.s false 3 nq (cQ qs)), .ext b3 (.s false 4 nv (cE vs)), .rowc 56 4 k (.fn (cE out)), .rowc 173 1 n (.fn (cS l))]⟩ K R) = W (bif decide ((↑k : Int) < (↑n : Int)) then (∀ M : Mem, (0 : Int) ≤ (↑k : Int) ∧ (↑k : Int) < (↑n : Int)) ∧ (∀ M : Mem, k < n) ∧ (∀ M : Mem, stV (gN l k) = Value.iface 209 (Value.agg (Array.mk [vi64 (gN l k).2, vu64 (↑(limb (gN l k).4 0) : Int), vu64 (↑(limb (gN l k).4 1) : Int), vu64 (↑(limb (gN l k).4 2) : Int), vu64 (↑(limb (gN l k).4 3) : Int)]))) ∧ (∀ M : Mem, (0 : Int) ≤ (gN l k).2 ∧ (gN l k).2 < (↑k : Int)) ∧ (∀ M : Mem, Int.toNat (gN l k).2 < k) ∧ c2C (eI (gN l k).4) (eI (gE out (Int.toNat (gN l k).2))) fun (a b : Nat) => (∀ M : Mem, 0 + 4 ≤ 4) ∧ (∀ M : Mem, 0 + 4 ≤ 4) ∧ c2C (eI (fMu s a b)) [(0 : Int), (0 : Int), (0 : Int), (0 : Int)] fun (a b : Nat) => (∀ M : Mem, (k + 1) * 32 ≤ 140737488355328 ∧ k + 1 ≤ 140737488355328) ∧ K [.rnd [0,0,1,0,1,1,1,1,1] M, .blk 1, .at [1,1,1,1,1,1]] (St.mk [(0, .v (vi64 s)), (2, .x 0 []), (3, .x 1 []), (14, .o 2), (47, .o 3), (48, .v (vi64 (↑n : Int))), (49, .v (vi64 (IntKind.wrap .i64 ((↑k : Int) + (1 : Int)))))] [.ext b2 (.s false 3 nq (cQ qs)), .ext b3 (.s false 4 nv (cE vs)), .rowc 56 4 (k + 1) (.app k (.fn (cE out)) (.lit 4 [.v (vu64 (↑(limb (fAd s a b) 0) : Int)), .v (vu64 (↑(limb (fAd s a b) 1) : Int)), .v (vu64 (↑(limb (fAd s a b) 2) : Int)), .v (vu64 (↑(limb (fAd s a b) 3) : Int))])), .rowc 173 1 n (.fn (cS l))]) else R (.tup [.o 0, .v (vi64 0)]) [.rowc 56 4 k (.fn (cE out))]) := by kernel_rfl
theorem vlq (s : Int) (b2 b3 : Bool) (l : List Nd) (qs : List (Int × Int × Int)) (vs out : List Nat) (n nq nv k M : Nat) (K : List It → St → Prop) (R : SV → List HO → Prop) : W (xwp Try.prog X K28 [(136, []), (140, []), (143, []), (151, [])] 60 (fxOf Try.f71 [] [⟨[0,1,0,1,1,1,1,1], [0,2,3,14,47,48,49], []⟩]) [.as 52 (.v (.iface 176 (.agg #[.int .i64 (gN l k).op, .int .i64 (gN l k).a, .int .i64 (gN l k).b])))] (.at [0,0,1,0,1,1,1,1,1] :: .rnd [0,0,1,0,1,1,1,1,1] M :: [.blk 1, .at [1,1,1,1,1,1]]) ⟨[(0, .v (.int .i64 s)), (2, .x 0 []), (3, .x 1 []), (14, .o 2), (47, .o 3), (48, .v (.int .i64 (n : Int))), (49, .v (.int .i64 (k : Int)))], [.ext b2 (.s false 3 nq (cQ qs)), .ext b3 (.s false 4 nv (cE vs)), .rowc 56 4 k (.fn (cE out)), .rowc 173 1 n (.fn (cS l))]⟩ K R) = W (bif decide ((↑k : Int) < (↑n : Int)) then (∀ M : Mem, (0 : Int) ≤ (↑k : Int) ∧ (↑k : Int) < (↑n : Int)) ∧ (∀ M : Mem, k < n) ∧ (∀ M : Mem, stV (gN l k) = Value.iface 176 (Value.agg (Array.mk [vi64 (gN l k).1, vi64 (gN l k).2, vi64 (gN l k).3]))) ∧ (∀ M : Mem, 0 + 3 ≤ 3) ∧ ∃ (l_1 : List (Int × Int × Int)), nq = List.length l_1 ∧ IsC nq 3 (cQ qs) (cQ l_1) ∧ List.length l_1 ≤ 4398046511104 ∧ bif decide (idxF (sameQ (gN l k).1 (gN l k).2 (gN l k).3) 0 l_1 < (0 : Int)) then R (.tup [.v (Value.slice none 0 0), .v (vi64 50)]) [] else (∀ M : Mem, (0 : Int) ≤ idxF (sameQ (gN l k).1 (gN l k).2 (gN l k).3) 0 l_1 ∧ idxF (sameQ (gN l k).1 (gN l k).2 (gN l k).3) 0 l_1 < (↑nv : Int)) ∧ (∀ M : Mem, Int.toNat (idxF (sameQ (gN l k).1 (gN l k).2 (gN l k).3) 0 l_1) < nv) ∧ (∀ M : Mem, 0 + 4 ≤ 4) ∧ c2C (eI (gE vs (Int.toNat (idxF (sameQ (gN l k).1 (gN l k).2 (gN l k).3) 0 l_1)))) [(0 : Int), (0 : Int), (0 : Int), (0 : Int)] fun (a b : Nat) => (∀ M : Mem, (k + 1) * 32 ≤ 140737488355328 ∧ k + 1 ≤ 140737488355328) ∧ K [.rnd [0,0,1,0,1,1,1,1,1] M, .blk 1, .at [1,1,1,1,1,1]] (St.mk [(0, .v (vi64 s)), (2, .x 0 []), (3, .x 1 []), (14, .o 2), (47, .o 3), (48, .v (vi64 (↑n : Int))), (49, .v (vi64 (IntKind.wrap .i64 ((↑k : Int) + (1 : Int)))))] [.ext b2 (.s false 3 nq (cQ qs)), .ext b3 (.s false 4 nv (cE vs)), .rowc 56 4 (k + 1) (.app k (.fn (cE out)) (.lit 4 [.v (vu64 (↑(limb (fAd s a b) 0) : Int)), .v (vu64 (↑(limb (fAd s a b) 1) : Int)), .v (vu64 (↑(limb (fAd s a b) 2) : Int)), .v (vu64 (↑(limb (fAd s a b) 3) : Int))])), .rowc 173 1 n (.fn (cS l))]) else R (.tup [.o 0, .v (vi64 0)]) [.rowc 56 4 k (.fn (cE out))]) := by kernel_rfl
theorem vlS (s : Int) (b1 b2 b3 : Bool) (l : List Nd) (qs : List (Int × Int × Int)) (vs : List Nat) (K : List It → St → Prop) (R : SV → List HO → Prop) : W (xwp Try.prog X K28 [(136, []), (140, []), (143, []), (151, [])] 60 (fxOf Try.f71 [] [⟨[0,1,0,1,1,1,1,1], [0,2,3,14,47,48,49], []⟩]) [] [.at []] ⟨argsS 0 [.v (.int .i64 s), .x 0 [], .x 1 [], .x 2 []], [.ext b1 (.s false 7 l.length (cN l)), .ext b2 (.s false 3 qs.length (cQ qs)), .ext b3 (.s false 4 vs.length (cE vs))]⟩ K R) = W ((∀ M : Mem, 0 + 4 ≤ 4) ∧ bif !fE s == (0 : Int) then R (.tup [.v (Value.slice none 0 0), .v (vi64 (fE s))]) [] else ∃ (l_1 : List Nd), List.length l = List.length l_1 ∧ IsC (List.length l) 7 (cN l) (cN l_1) ∧ List.length l_1 ≤ 4398046511104 ∧ bif ordN 0 l_1 then bif !(↑(List.length vs) : Int) == (↑(List.length qs) : Int) then R (.tup [.v (Value.slice none 0 0), .v (vi64 50)]) [] else (∀ M : Mem, (0 : Int) ≤ (0 : Int) ∧ (0 : Int) ≤ (↑(List.length l) : Int) ∧ (32 : Int) * (↑(List.length l) : Int) ≤ (281474976710656 : Int) ∧ (↑(List.length l) : Int) ≤ (9223372036854775807 : Int)) ∧ K [.at [0,1,0,1,1,1,1,1], .blk 1, .at [1,1,1,1,1,1]] (St.mk [(0, .v (vi64 s)), (2, .x 0 []), (3, .x 1 []), (14, .o 2), (47, .o 3), (48, .v (vi64 (↑(List.length l) : Int))), (49, .v (vi64 0))] [.ext b2 (.s false 3 (List.length qs) (cQ qs)), .ext b3 (.s false 4 (List.length vs) (cE vs)), .rowc 56 4 0 (Ct.zero [vu64 0, vu64 0, vu64 0, vu64 0]), .rowc 173 1 (List.length l) (.fn (cS l_1))]) else R (.tup [.v (Value.slice none 0 0), .v (vi64 110)]) []) := by kernel_rfl
theorem vl_loop (s : Int) (b2 b3 : Bool) (all : List Nd) (qs : List (Int × Int × Int)) (vs : List Nat) (hb : all.length ≤ 4398046511104) (hbq : qs.length ≤ 4398046511104) (ho : ordN 0 all = true) (hl : vs.length = qs.length) (ht : ∀ x ∈ all, x.v < top) (hv : ∀ v ∈ vs, v < top) (Q : SV → List HO → Prop)
    (hq : ∀ out, valsN s qs vs [] all = some out → Q (.tup [.o 0, .v (.int .i64 0)]) [.rowc 56 4 out.length (.fn (cE out))]) (hn : valsN s qs vs [] all = none → Q (.tup [.v (.slice none 0 0), .v (.int .i64 50)]) []) :
    ∀ (d k : Nat) (out : List Nat), k + d = all.length → out.length = k → (∀ z ∈ out, z < top) → valsN s qs vs [] all = valsN s qs vs out (all.drop k) →
    FOk Try.prog Try.f71 Q (.rnd [0,0,1,0,1,1,1,1,1] (d + 1) :: [.blk 1, .at [1, 1, 1, 1, 1, 1]]) ⟨[(0, .v (.int .i64 s)), (2, .x 0 []), (3, .x 1 []), (14, .o 2), (47, .o 3), (48, .v (.int .i64 ((all.length : Nat) : Int))), (49, .v (.int .i64 (k : Int)))], [.ext b2 (.s false 3 qs.length (cQ qs)), .ext b3 (.s false 4 vs.length (cE vs)), .rowc 56 4 k (.fn (cE out)), .rowc 173 1 all.length (.fn (cS all))]⟩
  | 0, k, out, hd, hk, hz, he => by
    refine FOk.rnd (run_sound hm 60 ((vlc s b2 b3 all qs vs out all.length qs.length vs.length k 0 _ _).mpr ⟨?_⟩))
    simp only [cond_dec]
    rw [if_neg (by omega)]
    rw [show k = all.length by omega, List.drop_length, valsN] at he
    have := hq out he
    rw [hk] at this
    exact this
  | d + 1, k, out, hd, hk, hz, he => by
    have hka : k < all.length := by omega
    rw [drop_gN hka] at he
    have hop := ordN_op all 0 ho _ (gN_mem hka)
    have hus := okN_iff k (gN all k)
    have hok : okN k (gN all k) = true := ordN_get ho k (gN all k) (by rw [gN, List.getD_eq_getElem?_getD, List.getElem?_eq_getElem hka]; rfl)
    rw [hok] at hus
    have hus := hus.1 rfl
    have yes : ∀ z, valD s qs vs out (gN all k) = some z → FOk Try.prog Try.f71 Q (.rnd [0,0,1,0,1,1,1,1,1] (d + 1) :: [.blk 1, .at [1, 1, 1, 1, 1, 1]]) ⟨[(0, .v (.int .i64 s)), (2, .x 0 []), (3, .x 1 []), (14, .o 2), (47, .o 3), (48, .v (.int .i64 ((all.length : Nat) : Int))), (49, .v (.int .i64 (IntKind.wrap .i64 ((k : Int) + 1))))], [.ext b2 (.s false 3 qs.length (cQ qs)), .ext b3 (.s false 4 vs.length (cE vs)), .rowc 56 4 (k + 1) (.app k (.fn (cE out)) (.lit 4 [.v (.int .u64 (limb (fAd s z 0) 0 : Nat)), .v (.int .u64 (limb (fAd s z 0) 1 : Nat)), .v (.int .u64 (limb (fAd s z 0) 2 : Nat)), .v (.int .u64 (limb (fAd s z 0) 3 : Nat))])), .rowc 173 1 all.length (.fn (cS all))]⟩ := fun z hz' => by
      rw [wrap_inc _ (by omega)]
      rw [valsN_some hz'] at he
      refine FOk.cv (vl_loop s b2 b3 all qs vs hb hbq ho hl ht hv Q hq hn d (k + 1) (out ++ [fAd s z 0]) (by omega) (by simp [hk]) (fun y hy => ?_) he) ⟨HE.refl _, HE.refl _, ⟨rfl, rfl, rfl, cE_snoc _ hk⟩, HE.refl _, trivial⟩
      rcases List.mem_append.1 hy with h | h
      · exact hz y h
      · rw [List.mem_singleton] at h; rw [h]; exact fAd_top s z 0
    by_cases h : (gN all k).op = 1
    · refine FOk.rnd (run_sound hm 60 ((vlc s b2 b3 all qs vs out all.length qs.length vs.length k (d + 1) _ _).mpr ⟨?_⟩))
      simp only [cond_dec, ← eI_zero]
      rw [if_pos (by omega)]
      refine And.intro (fun _ => by omega) (And.intro (fun _ => by omega) (And.intro (fun _ => stV_c h) ?_))
      refine And.intro (fun _ => by omega) (And.intro (fun _ => by omega) (c2C_mk _ 0 (gN_top ht k) top0 ?_))
      exact And.intro (fun _ => by omega) (yes _ (valD_c s qs vs out h))
    by_cases h : (gN all k).op = 5
    · refine FOk.rnd (run_sound hm 60 ((vln s b2 b3 all qs vs out all.length qs.length vs.length k (d + 1) _ _).mpr ⟨?_⟩))
      simp only [cond_dec, ← eI_zero]
      rw [if_pos (by omega)]
      refine And.intro (fun _ => by omega) (And.intro (fun _ => by omega) (And.intro (fun _ => stV_n h) ?_))
      refine And.intro (fun _ => by omega) (And.intro (fun _ => by omega) (c1C_mk _ (gE_top hz _) (And.intro (fun _ => by omega) (And.intro (fun _ => by omega) (c2C_mk _ 0 (fNg_top _ _) top0 ?_)))))
      exact And.intro (fun _ => by omega) (yes _ (valD_n s qs vs out h))
    by_cases h : (gN all k).op = 6
    · refine FOk.rnd (run_sound hm 60 ((vla s b2 b3 all qs vs out all.length qs.length vs.length k (d + 1) _ _).mpr ⟨?_⟩))
      simp only [cond_dec, ← eI_zero]
      rw [if_pos (by omega)]
      refine And.intro (fun _ => by omega) (And.intro (fun _ => by omega) (And.intro (fun _ => stV_a h) ?_))
      refine And.intro (fun _ => by omega) (And.intro (fun _ => by omega) (And.intro (fun _ => by omega) (And.intro (fun _ => by omega) (c2C_mk _ _ (gE_top hz _) (gE_top hz _) (And.intro (fun _ => by omega) (And.intro (fun _ => by omega) (c2C_mk _ 0 (fAd_top _ _ _) top0 ?_)))))))
      exact And.intro (fun _ => by omega) (yes _ (valD_a s qs vs out h))
    by_cases h : (gN all k).op = 7
    · refine FOk.rnd (run_sound hm 60 ((vlm s b2 b3 all qs vs out all.length qs.length vs.length k (d + 1) _ _).mpr ⟨?_⟩))
      simp only [cond_dec, ← eI_zero]
      rw [if_pos (by omega)]
      refine And.intro (fun _ => by omega) (And.intro (fun _ => by omega) (And.intro (fun _ => stV_m h) ?_))
      refine And.intro (fun _ => by omega) (And.intro (fun _ => by omega) (And.intro (fun _ => by omega) (And.intro (fun _ => by omega) (c2C_mk _ _ (gE_top hz _) (gE_top hz _) (And.intro (fun _ => by omega) (And.intro (fun _ => by omega) (c2C_mk _ 0 (fMu_top _ _ _) top0 ?_)))))))
      exact And.intro (fun _ => by omega) (yes _ (valD_m s qs vs out h))
    by_cases h : (gN all k).op = 8
    · refine FOk.rnd (run_sound hm 60 ((vls s b2 b3 all qs vs out all.length qs.length vs.length k (d + 1) _ _).mpr ⟨?_⟩))
      simp only [cond_dec, ← eI_zero]
      rw [if_pos (by omega)]
      refine And.intro (fun _ => by omega) (And.intro (fun _ => by omega) (And.intro (fun _ => stV_s h) ?_))
      refine And.intro (fun _ => by omega) (And.intro (fun _ => by omega) (c2C_mk _ _ (gN_top ht k) (gE_top hz _) (And.intro (fun _ => by omega) (And.intro (fun _ => by omega) (c2C_mk _ 0 (fMu_top _ _ _) top0 ?_)))))
      exact And.intro (fun _ => by omega) (yes _ (valD_s s qs vs out h))
    by_cases h : 2 ≤ (gN all k).op ∧ (gN all k).op ≤ 4
    · refine FOk.rnd (run_sound hm 60 ((vlq s b2 b3 all qs vs out all.length qs.length vs.length k (d + 1) _ _).mpr ⟨?_⟩))
      simp only [cond_dec, ← eI_zero]
      rw [if_pos (by omega)]
      refine And.intro (fun _ => by omega) (And.intro (fun _ => by omega) (And.intro (fun _ => stV_q h) ?_))
      have hD := valD_q s qs vs out h
      have hlt := idxF_lt (sameQ (gN all k).op (gN all k).a (gN all k).b) qs 0
      refine And.intro (fun _ => by omega) ⟨qs, rfl, IsC.refl _ _ _, hbq, ite_intro (fun hi => ?_) (fun hi => ?_)⟩
      · rw [if_pos hi] at hD
        rw [valsN_none hD] at he
        exact hn he
      · rw [if_neg hi] at hD
        refine And.intro (fun _ => by omega) (And.intro (fun _ => by omega) (And.intro (fun _ => by omega) (c2C_mk _ 0 (gE_top hv _) top0 ?_)))
        exact And.intro (fun _ => by omega) (yes _ hD)
    omega
theorem bVl : Try.f71.body.isSome = true := by kernel_rfl
theorem nVl (s : Int) : Nat.ble [SV.v (.int .i64 s), .x 0 [], .x 1 [], .x 2 []].length Try.f71.ntmps = true := by kernel_rfl
theorem values_ok (s : Int) (b1 b2 b3 : Bool) (l : List Nd) (qs : List (Int × Int × Int)) (vs : List Nat) (hb : l.length ≤ 4398046511104) (hbq : qs.length ≤ 4398046511104) (ht : ∀ x ∈ l, x.v < top) (hv : ∀ v ∈ vs, v < top) (Q : SV → List HO → Prop)
    (hq : Q (.tup [.o 0, .v (.int .i64 (vlR s qs vs l).2)]) [.rowc 56 4 (vlR s qs vs l).1.length (.fn (cE (vlR s qs vs l).1))]) : FnOk Try.prog 71 [.v (.int .i64 s), .x 0 [], .x 1 [], .x 2 []] [.ext b1 (.s false 7 l.length (cN l)), .ext b2 (.s false 3 qs.length (cQ qs)), .ext b3 (.s false 4 vs.length (cE vs))] Q := by
  refine FnOk.mono (FnOk.eqv (r0 := .tup [.o 0, .v (.int .i64 (vlR s qs vs l).2)]) (h0 := [.rowc 56 4 (vlR s qs vs l).1.length (.fn (cE (vlR s qs vs l).1))]) ?_) (fun r h' hh => by rw [hh.1, hh.2]; exact hq)
  refine FnOk.nilT 56 4 (fn_of_ok Try.func71 bVl ?_ ?_)
  · exact nVl s
  refine run_sound hm 60 ((vlS s b1 b2 b3 l qs vs _ _).mpr ⟨?_⟩)
  refine And.intro (fun _ => by omega) ?_
  have bad : ∀ e : Int, vlR s qs vs l = ([], e) → (fun r h' => (r = SV.tup [.o 0, .v (.int .i64 (vlR s qs vs l).2)] ∧ HEs h' [.rowc 56 4 (vlR s qs vs l).1.length (.fn (cE (vlR s qs vs l).1))]) ∨ (∃ y, r = .tup [.v (.slice none 0 0), .v y] ∧ h' = [] ∧ (SV.tup [.o 0, .v y] = SV.tup [.o 0, .v (.int .i64 (vlR s qs vs l).2)] ∧ HEs [HO.rowc 56 4 0 (.lit 1 [])] [.rowc 56 4 (vlR s qs vs l).1.length (.fn (cE (vlR s qs vs l).1))]))) (SV.tup [SV.v (Value.slice none 0 0), SV.v (vi64 e)]) [] := fun e he => by
    rw [he]
    exact .inr ⟨_, rfl, rfl, rfl, ⟨rfl, rfl, rfl, fun k hk => by omega⟩, trivial⟩
  rw [cond_not, cond_beq]
  refine ite_intro (fun h0 => ?_) (fun h0 => ?_)
  · rw [fE_zero] at h0
    refine ⟨l, rfl, IsC.refl _ _ _, hb, cond_intro (fun ho => ?_) (fun ho => ?_)⟩
    · rw [cond_not, cond_beq]
      refine ite_intro (fun hl => ?_) (fun hl => ?_)
      · have hl : vs.length = qs.length := by omega
        refine And.intro (fun _ => by omega) (FOk.loop (l.length + 1) (by kernel_rfl) (FOk.cv (vl_loop s b2 b3 l qs vs hb hbq ho hl ht hv _ (fun out hout => ?_) (fun hnone => ?_) l.length 0 [] (by omega) rfl (by simp) rfl) ⟨HE.refl _, HE.refl _, ⟨rfl, rfl, rfl, fun k hk => by omega⟩, HE.refl _, trivial⟩))
        · have e : vlR s qs vs l = (out, 0) := by rw [vlR, if_neg h0, if_neg (by rw [ho]; simp), if_neg (by omega), hout]
          rw [e]
          exact .inl ⟨rfl, HEs.refl _⟩
        · exact bad 50 (by rw [vlR, if_neg h0, if_neg (by rw [ho]; simp), if_neg (by omega), hnone])
      · exact bad 50 (by rw [vlR, if_neg h0, if_neg (by rw [ho]; simp), if_pos (by omega)])
    · exact bad 110 (by rw [vlR, if_neg h0, if_pos ho])
  · have h0 : fP s = 0 := by
      by_cases h : fP s = 0
      · exact h
      · exact absurd ((fE_zero s).2 h) h0
    rw [fE_of s h0]
    exact bad 20 (by rw [vlR, if_pos h0])
noncomputable def gVl : List SV → List HO → Option ((SV → List HO → Prop) → Prop)
  | [.v (.int .i64 s), .x 0 [], .x 1 [], .x 2 []], [.ext _ (.s false 7 n cn), .ext _ (.s false 3 nq cq), .ext _ (.s false 4 nv cv)] => some fun Q => vlC n nq nv cn cq cv fun l qs vs => Q (.tup [.o 0, .v (.int .i64 (vlR s qs vs l).2)]) [.rowc 56 4 (vlR s qs vs l).1.length (.fn (cE (vlR s qs vs l).1))]
  | _, _ => none
theorem gVl_ok (args : List SV) (h : List HO) (tr : (SV → List HO → Prop) → Prop) (Q : SV → List HO → Prop) (hc : gVl args h = some tr) (ht : tr Q) : FnOk Try.prog 71 args h Q := by
  unfold gVl at hc
  split at hc
  · rename_i s b1 n cn b2 nq cq b3 nv cv
    simp only [Option.some.injEq] at hc
    subst hc
    obtain ⟨l, qs, vs, rfl, h1, rfl, h2, rfl, h3, hb, hbq, hx, hv, hq⟩ := ht.h
    exact FnOk.ac (values_ok s b1 b2 b3 l qs vs hb hbq hx hv Q hq) ⟨⟨rfl, rfl, rfl, rfl, h1⟩, ⟨rfl, rfl, rfl, rfl, h2⟩, ⟨rfl, rfl, rfl, rfl, h3⟩, trivial⟩
  · cases hc
noncomputable def K29 : Con Try.prog := K28.add 71 gVl gVl_ok
end Go.Proofs.Ytlmjdcbhpffanaa
/- Lists of elements: compared, copied. -/
namespace Go.Pl
open Go.Sx
theorem ext_gE {l l2 : List Nat} (h : l.length = l2.length) (e : ∀ k, k < l.length → gE l k = gE l2 k) : l = l2 :=
  List.ext_getElem h fun k hk hk2 => by have := e k hk; simpa only [gE, List.getD_eq_getElem?_getD, List.getElem?_eq_getElem hk, List.getElem?_eq_getElem hk2, Option.getD_some] using this
theorem eI_inj {a b : Nat} (ha : a < top) (hb : b < top) (h : eI a = eI b) : a = b := by
  simp only [eI, List.cons.injEq, and_true] at h
  exact eq_of_limbs ha hb (by omega) (by omega) (by omega) (by omega)
structure lE (n : Nat) (c : Nat → Nat → Cell) (k : List Nat → Prop) : Prop where
  h : ∃ l : List Nat, n = l.length ∧ IsC n 4 c (cE l) ∧ l.length ≤ 4398046511104 ∧ (∀ v ∈ l, v < top) ∧ k l
structure lE2 (n n2 : Nat) (c c2 : Nat → Nat → Cell) (k : List Nat → List Nat → Prop) : Prop where
  h : ∃ l l2 : List Nat, n = l.length ∧ IsC n 4 c (cE l) ∧ n2 = l2.length ∧ IsC n2 4 c2 (cE l2) ∧ l.length ≤ 4398046511104 ∧ (∀ v ∈ l, v < top) ∧ (∀ v ∈ l2, v < top) ∧ k l l2
end Go.Pl
namespace Go.Proofs.Ytlmjdcbhpffanaa
open Go.Sx Go.Pl
set_option linter.unusedVariables false
set_option maxRecDepth 100000
theorem seR (b b2 : Bool) (l l2 : List Nat) (n n2 k M : Nat) (K : List It → St → Prop) (R : SV → List HO → Prop) : W (xwp Try.prog X K29 [] 60 (fxOf Try.f42 [] [⟨[0,1,0,1,1], [5,4,0,1], []⟩]) [] (.at [0,0,1,0,1,1] :: .rnd [0,0,1,0,1,1] M :: [.blk 0, .at [1,1,1]]) ⟨[(5, .v (.int .i64 (k : Int))), (4, .v (.bool false)), (0, .x 0 []), (1, .x 1 [])], [.ext b (.s false 4 n (cE l)), .ext b2 (.s false 4 n2 (cE l2))]⟩ K R) = W (bif decide ((↑k : Int) < (↑n : Int)) then (∀ M : Mem, (0 : Int) ≤ (↑k : Int) ∧ (↑k : Int) < (↑n : Int)) ∧ (∀ M : Mem, k < n) ∧ (∀ M : Mem, (0 : Int) ≤ (↑k : Int) ∧ (↑k : Int) < (↑n2 : Int)) ∧ (∀ M : Mem, k < n2) ∧ bif !decide ((eI (gE l k)) = (eI (gE l2 k))) then R (.v (.bool false)) [] else K [.rnd [0,0,1,0,1,1] M, .blk 0, .at [1,1,1]] (St.mk [(5, .v (vi64 (IntKind.wrap .i64 ((↑k : Int) + (1 : Int))))), (4, .v (.bool false)), (0, .x 0 []), (1, .x 1 [])] [.ext b (.s false 4 n (cE l)), .ext b2 (.s false 4 n2 (cE l2))]) else R (.v (.bool true)) []) := by kernel_rfl
theorem seS (b b2 : Bool) (l l2 : List Nat) (n n2 : Nat) (K : List It → St → Prop) (R : SV → List HO → Prop) : W (xwp Try.prog X K29 [] 60 (fxOf Try.f42 [] [⟨[0,1,0,1,1], [5,4,0,1], []⟩]) [] [.at []] ⟨argsS 0 [.x 0 [], .x 1 []], [.ext b (.s false 4 n (cE l)), .ext b2 (.s false 4 n2 (cE l2))]⟩ K R) = W (bif !(↑n : Int) == (↑n2 : Int) then R (.v (.bool false)) [] else K [.at [0,1,0,1,1], .blk 0, .at [1,1,1]] (St.mk [(5, .v (vi64 0)), (4, .v (.bool false)), (0, .x 0 []), (1, .x 1 [])] [.ext b (.s false 4 n (cE l)), .ext b2 (.s false 4 n2 (cE l2))])) := by kernel_rfl
theorem ceS (l : List Nat) (K : List It → St → Prop) (R : SV → List HO → Prop) : W (xwp Try.prog X K29 [] 60 (fxOf Try.f36 [] []) [] [.at []] ⟨argsS 0 [.x 0 []], [.ext false (.s false 4 l.length (cE l))]⟩ K R) = W ((∀ M : Mem, (0 + List.length l) * 32 ≤ 140737488355328 ∧ 0 + List.length l ≤ 140737488355328) ∧ R (.o 0) [.rowc 56 4 (0 + List.length l) (.app 0 (.lit 4 []) (.fn (cE l)))]) := by kernel_rfl
theorem se_loop (b b2 : Bool) (l l2 : List Nat) (hl : l.length = l2.length) (hb : l.length ≤ 4398046511104) (Q : SV → List HO → Prop) (hq1 : (∀ k, k < l.length → eI (gE l k) = eI (gE l2 k)) → Q (.v (.bool true)) []) (hq0 : (∃ k, k < l.length ∧ ¬ (eI (gE l k) = eI (gE l2 k))) → Q (.v (.bool false)) []) :
    ∀ (d k : Nat), k + d = l.length → (∀ k', k' < k → eI (gE l k') = eI (gE l2 k')) →
    FOk Try.prog Try.f42 Q (.rnd [0,0,1,0,1,1] (d + 1) :: [.blk 0, .at [1,1,1]]) ⟨[(5, .v (.int .i64 (k : Int))), (4, .v (.bool false)), (0, .x 0 []), (1, .x 1 [])], [.ext b (.s false 4 l.length (cE l)), .ext b2 (.s false 4 l2.length (cE l2))]⟩
  | 0, k, hd, he => by
    refine FOk.rnd (run_sound hm 60 ((seR b b2 l l2 l.length l2.length k 0 _ _).mpr ⟨?_⟩))
    simp only [cond_dec]
    rw [if_neg (by omega)]
    exact hq1 fun k' hk' => he k' (by omega)
  | d + 1, k, hd, he => by
    refine FOk.rnd (run_sound hm 60 ((seR b b2 l l2 l.length l2.length k (d + 1) _ _).mpr ⟨?_⟩))
    simp only [cond_dec, cond_not, forall_const]
    rw [if_pos (by omega)]
    repeat' (first | refine And.intro (by omega) ?_ | refine ite_intro (fun h => ?_) (fun h => ?_))
    · rw [wrap_inc _ (by omega)]
      refine se_loop b b2 l l2 hl hb Q hq1 hq0 d (k + 1) (by omega) fun k' hk' => ?_
      by_cases hh : k' = k
      · rw [hh]; exact h
      · exact he k' (by omega)
    · exact hq0 ⟨k, by omega, h⟩
theorem bse : Try.f42.body.isSome = true := by kernel_rfl
theorem nse : Nat.ble [SV.x 0 [], .x 1 []].length Try.f42.ntmps = true := by kernel_rfl
theorem se_ok (b b2 : Bool) (l l2 : List Nat) (hb : l.length ≤ 4398046511104) (Q : SV → List HO → Prop) (hq1 : l.length = l2.length → (∀ k, k < l.length → eI (gE l k) = eI (gE l2 k)) → Q (.v (.bool true)) []) (hq0 : (l.length ≠ l2.length ∨ ∃ k, k < l.length ∧ ¬ (eI (gE l k) = eI (gE l2 k))) → Q (.v (.bool false)) []) : FnOk Try.prog 42 [.x 0 [], .x 1 []] [.ext b (.s false 4 l.length (cE l)), .ext b2 (.s false 4 l2.length (cE l2))] Q := by
  refine fn_of_ok Try.func42 bse ?_ ?_
  · exact nse
  refine run_sound hm 60 ((seS b b2 l l2 l.length l2.length _ _).mpr ⟨?_⟩)
  simp only [cond_not, cond_beq]
  refine ite_intro (fun h => ?_) (fun h => hq0 (.inl (by omega)))
  have h' : l.length = l2.length := by omega
  exact FOk.loop (l.length + 1) (by kernel_rfl) (se_loop b b2 l l2 h' hb Q (hq1 h') (fun hh => hq0 (.inr hh)) l.length 0 (by omega) fun k' hk' => by omega)
noncomputable def g_se : List SV → List HO → Option ((SV → List HO → Prop) → Prop)
  | [.x 0 [], .x 1 []], [.ext _ (.s false 4 n c), .ext _ (.s false 4 n2 c2)] => some fun Q => lE2 n n2 c c2 fun l l2 => Q (.v (.bool (decide (l = l2)))) []
  | _, _ => none
theorem g_se_ok (args : List SV) (h : List HO) (tr : (SV → List HO → Prop) → Prop) (Q : SV → List HO → Prop) (hc : g_se args h = some tr) (ht : tr Q) : FnOk Try.prog 42 args h Q := by
  unfold g_se at hc
  split at hc
  · rename_i b n c b2 n2 c2
    simp only [Option.some.injEq] at hc
    subst hc
    obtain ⟨l, l2, rfl, he, rfl, he2, hb, hv, hv2, hq⟩ := ht.h
    refine FnOk.ac (se_ok b b2 l l2 hb Q (fun h1 h2 => ?_) (fun h1 => ?_)) ⟨⟨rfl, rfl, rfl, rfl, he⟩, ⟨rfl, rfl, rfl, rfl, he2⟩, trivial⟩
    · rw [decide_eq_true (ext_gE h1 fun k hk => eI_inj (gE_top hv k) (gE_top hv2 k) (h2 k hk))] at hq; exact hq
    · rw [decide_eq_false (fun hh => by subst hh; exact h1.elim (fun h => h rfl) (fun ⟨_, _, h⟩ => h rfl))] at hq; exact hq
  · cases hc
theorem bce : Try.f36.body.isSome = true := by kernel_rfl
theorem nce : Nat.ble [SV.x 0 []].length Try.f36.ntmps = true := by kernel_rfl
theorem ce_ok (all : List Nat) (hb : all.length ≤ 4398046511104) (Q : SV → List HO → Prop) (hq : Q (.o 0) [.rowc 56 4 all.length (.fn (cE all))]) : FnOk Try.prog 36 [.x 0 []] [.ext false (.s false 4 all.length (cE all))] Q := by
  refine FnOk.mono (FnOk.eqv (r0 := .o 0) (h0 := [.rowc 56 4 all.length (.fn (cE all))]) ?_) (fun r h' hh => by rw [hh.1, hh.2]; exact hq)
  refine fn_of_ok Try.func36 bce ?_ ?_
  · exact nce
  refine run_sound hm 60 ((ceS all _ _).mpr ⟨?_⟩)
  refine ⟨fun _ => by omega, rfl, ⟨rfl, rfl, by omega, fun k hk j hj => ?_⟩, trivial⟩
  exact appC_ge _ _ _ (Nat.zero_le _)
noncomputable def g_ce : List SV → List HO → Option ((SV → List HO → Prop) → Prop)
  | [.x 0 []], [.ext false (.s false 4 n c)] => some fun Q => lE n c fun l => Q (.o 0) [.rowc 56 4 l.length (.fn (cE l))]
  | _, _ => none
theorem g_ce_ok (args : List SV) (h : List HO) (tr : (SV → List HO → Prop) → Prop) (Q : SV → List HO → Prop) (hc : g_ce args h = some tr) (ht : tr Q) : FnOk Try.prog 36 args h Q := by
  unfold g_ce at hc
  split at hc
  · rename_i n c
    simp only [Option.some.injEq] at hc
    subst hc
    obtain ⟨l, rfl, he, hb, hv, hq⟩ := ht.h
    exact FnOk.ac (ce_ok l hb Q hq) ⟨⟨rfl, rfl, rfl, rfl, he⟩, trivial⟩
  · cases hc
noncomputable def K30 : Con Try.prog := (K29.add 42 g_se g_se_ok).add 36 g_ce g_ce_ok
end Go.Proofs.Ytlmjdcbhpffanaa
/- The statements' first line. -/
namespace Go.Pl
open Go.Sx
theorem limb_lit (n : Nat) (h : n < 18446744073709551616) : limb n 0 = n ∧ limb n 1 = 0 ∧ limb n 2 = 0 ∧ limb n 3 = 0 := limb_small n h
theorem fP_0 : fP 0 = 16513537 := rfl
theorem fAd_0 (a : Nat) (h : a < 16513537) : fAd 0 a 0 = a := by
  rw [fAd, if_neg (by rw [fP_0]; omega), fA_eq, fP_0]; omega
end Go.Pl
namespace Go.Proofs.Ytlmjdcbhpffanaa
open Go.Sx Go.Pl
set_option linter.unusedVariables false
set_option maxRecDepth 100000
noncomputable def K31 : Con Try.prog := K30
end Go.Proofs.Ytlmjdcbhpffanaa
/- Arguments' types: how their cells are told. -/
namespace Go.Pl
open Go.Sx
structure Cir where
  fx : Int
  ad : Int
  ins : Int
  nodes : List Nd
  gates : List Int
  looks : List (List Int × List Int)
  eqs : List (Int × Int)
noncomputable def cirCell (c : Cir) (j : Nat) : Cell :=
  match j with
  | 0 => .v (.int .i64 c.fx)
  | 1 => .v (.int .i64 c.ad)
  | 2 => .v (.int .i64 c.ins)
  | 3 => .s false 7 c.nodes.length (cN c.nodes)
  | 4 => .s false 1 c.gates.length (cI c.gates)
  | 5 => .s false 2 c.looks.length (cL c.looks)
  | 6 => .s false 2 c.eqs.length (cK c.eqs)
  | _ => .v undef
def i64 (z : Int) : Prop := -9223372036854775808 ≤ z ∧ z < 9223372036854775808
structure Cir.ok (c : Cir) : Prop where
  f : i64 c.fx
  a : i64 c.ad
  i : i64 c.ins
  n : (∀ x ∈ c.nodes, x.v < top ∧ i64 x.op ∧ i64 x.a ∧ i64 x.b) ∧ c.nodes.length * 56 ≤ 140737488351232
  g : (∀ x ∈ c.gates, i64 x) ∧ c.gates.length * 8 ≤ 140737488351232
  l : (∀ x ∈ c.looks, ((∀ y ∈ x.1, i64 y) ∧ x.1.length * 8 ≤ 140737488351232) ∧ ((∀ y ∈ x.2, i64 y) ∧ x.2.length * 8 ≤ 140737488351232)) ∧ c.looks.length * 48 ≤ 140737488351232
  e : (∀ x ∈ c.eqs, i64 x.1 ∧ i64 x.2) ∧ c.eqs.length * 16 ≤ 140737488351232
end Go.Pl
namespace Go.Proofs.Ytlmjdcbhpffanaa
open Go.Sx Go.Pl Go.RowKit Go.ChangeShapes Go.WideShapes Go.ChangeAt
set_option linter.unusedVariables false
set_option maxRecDepth 100000
theorem u3 : Try.prog.underlying 3 = some (.int .i64) := by kernel_rfl
theorem c3 : Try.prog.cellsOf 3 = 1 := by kernel_rfl
theorem u54 : Try.prog.underlying 54 = some (.int .u64) := by kernel_rfl
theorem c54 : Try.prog.cellsOf 54 = 1 := by kernel_rfl
theorem u4 : Try.prog.underlying 4 = some (.bool) := by kernel_rfl
theorem cod_i : Cod Try.prog 3 1 (fun (z : Int) _ => .v (.int .i64 z)) i64 := (Cod.int u3 c3).mono fun z h => by
  simp [Lit.wf, IntKind.min, IntKind.max, IntKind.signed, IntKind.bits] at h
  simp only [i64]; omega
theorem cod_u : Cod Try.prog 54 1 (fun (z : Nat) _ => .v (.int .u64 (z : Int))) (fun z => z < 18446744073709551616) := (Cod.int u54 c54).conv fun z h => by
  simp [Lit.wf, IntKind.min, IntKind.max, IntKind.signed, IntKind.bits] at h
  refine ⟨z.toNat, by omega, fun j _ => ?_⟩
  rw [show ((z.toNat : Nat) : Int) = z by omega]
theorem u56 : Try.prog.underlying 56 = some (.array 4 54) := by kernel_rfl
theorem c56 : Try.prog.cellsOf 56 = 4 := by kernel_rfl
theorem by56 : Try.prog.bytesOf 56 = 32 := by kernel_rfl
theorem cod_e : Cod Try.prog 56 4 (fun (a : Nat) j => .v (.int .u64 (limb a j : Nat))) (fun a => a < top) := (Cod.arr4 cod_u u56 c56).conv fun x h => by
  obtain ⟨h0, h1, h2, h3⟩ := h
  obtain ⟨l0, l1, l2, l3⟩ := limb_nv h0 h1 h2 h3
  refine ⟨nv x.1 x.2.1 x.2.2.1 x.2.2.2, nv_lt h0 h1 h2 h3, fun j hj => ?_⟩
  match j, hj with
  | 0, _ => rw [l0]; rfl
  | 1, _ => rw [l1]; rfl
  | 2, _ => rw [l2]; rfl
  | 3, _ => rw [l3]; rfl
theorem u113 : Try.prog.underlying 113 = some (.struct #[⟨"Op", 3, 0, false, "", "", 0⟩, ⟨"A", 3, 1, false, "", "", 8⟩, ⟨"B", 3, 2, false, "", "", 16⟩, ⟨"V", 56, 3, false, "", "", 24⟩]) := by kernel_rfl
theorem c113 : Try.prog.cellsOf 113 = 7 := by kernel_rfl
theorem cod_n : Cod Try.prog 113 7 ndCell (fun x => x.v < top ∧ i64 x.op ∧ i64 x.a ∧ i64 x.b) where
  cells := c113
  opn := by
    intro H enc w base sp hd n cs d p hl h hw
    obtain ⟨xs, k, _, hx, _, hxl, hf⟩ := DataW.trod_struct u113 h
    simp only [Prod.mk.injEq] at hx
    obtain ⟨rfl, rfl⟩ := hx
    have hW : ∀ x ∈ DataW.weightsEach Try.prog [3, 3, 3, 56] (xs.map (·.1)), x ≤ reachBytes := fun x hx => hw x (by simp only [DataW.weights, u113]; exact hx)
    have hxl : xs.length = 4 := hxl
    obtain ⟨x0, o0, r0⟩ := cod_i.field (off := 0) (hf 0 _ rfl) (by omega) hW rfl (by omega)
    obtain ⟨x1, o1, r1⟩ := cod_i.field (off := 1) (hf 1 _ rfl) (by omega) hW rfl (by omega)
    obtain ⟨x2, o2, r2⟩ := cod_i.field (off := 2) (hf 2 _ rfl) (by omega) hW rfl (by omega)
    obtain ⟨x3, o3, r3⟩ := cod_e.field (off := 3) (hf 3 _ rfl) (by omega) hW rfl (by omega)
    refine ⟨⟨x0, x1, x2, x3⟩, ⟨o3, o0, o1, o2⟩, fun j hj => ?_⟩
    match j, hj with
    | 0, _ => exact r0 0 (by omega)
    | 1, _ => exact r1 0 (by omega)
    | 2, _ => exact r2 0 (by omega)
    | 3, _ => exact r3 0 (by omega)
    | 4, _ => exact r3 1 (by omega)
    | 5, _ => exact r3 2 (by omega)
    | 6, _ => exact r3 3 (by omega)
theorem by113 : Try.prog.bytesOf 113 = 56 := by kernel_rfl
theorem u139 : Try.prog.underlying 139 = some (.struct #[⟨"Kind", 3, 0, false, "", "", 0⟩, ⟨"Col", 3, 1, false, "", "", 8⟩]) := by kernel_rfl
theorem c139 : Try.prog.cellsOf 139 = 2 := by kernel_rfl
theorem cod_k : Cod Try.prog 139 2 kCell (fun x => i64 x.1 ∧ i64 x.2) where
  cells := c139
  opn := by
    intro H enc w base sp hd n cs d p hl h hw
    obtain ⟨xs, k, _, hx, _, hxl, hf⟩ := DataW.trod_struct u139 h
    simp only [Prod.mk.injEq] at hx
    obtain ⟨rfl, rfl⟩ := hx
    have hW : ∀ x ∈ DataW.weightsEach Try.prog [3, 3] (xs.map (·.1)), x ≤ reachBytes := fun x hx => hw x (by simp only [DataW.weights, u139]; exact hx)
    have hxl : xs.length = 2 := hxl
    obtain ⟨x0, o0, r0⟩ := cod_i.field (off := 0) (hf 0 _ rfl) (by omega) hW rfl (by omega)
    obtain ⟨x1, o1, r1⟩ := cod_i.field (off := 1) (hf 1 _ rfl) (by omega) hW rfl (by omega)
    refine ⟨(x0, x1), ⟨o0, o1⟩, fun j hj => ?_⟩
    match j, hj with
    | 0, _ => exact r0 0 (by omega)
    | 1, _ => exact r1 0 (by omega)
theorem by139 : Try.prog.bytesOf 139 = 16 := by kernel_rfl
theorem by3 : Try.prog.bytesOf 3 = 8 := by kernel_rfl
theorem u22 : Try.prog.underlying 22 = some (.slice 113) := by kernel_rfl
theorem c22 : Try.prog.cellsOf 22 = 1 := by kernel_rfl
theorem cod_ns : Cod Try.prog 22 1 (fun (l : List Nd) _ => .s false 7 l.length (cN l)) (fun l => (∀ x ∈ l, x.v < top ∧ i64 x.op ∧ i64 x.a ∧ i64 x.b) ∧ l.length * 56 ≤ 140737488351232) := (Cod.slice cod_n u22 c22 dN).mono fun l h => by
  obtain ⟨h1, h2⟩ := h
  rw [by113, reachBytes] at h2
  exact ⟨h1, h2⟩
theorem u23 : Try.prog.underlying 23 = some (.slice 3) := by kernel_rfl
theorem c23 : Try.prog.cellsOf 23 = 1 := by kernel_rfl
theorem cod_is : Cod Try.prog 23 1 (fun (l : List Int) _ => .s false 1 l.length (cI l)) (fun l => (∀ x ∈ l, i64 x) ∧ l.length * 8 ≤ 140737488351232) := (Cod.slice cod_i u23 c23 0).mono fun l h => by
  obtain ⟨h1, h2⟩ := h
  rw [by3, reachBytes] at h2
  exact ⟨h1, h2⟩
theorem u44 : Try.prog.underlying 44 = some (.slice 56) := by kernel_rfl
theorem c44 : Try.prog.cellsOf 44 = 1 := by kernel_rfl
theorem cod_es : Cod Try.prog 44 1 (fun (l : List Nat) _ => .s false 4 l.length (cE l)) (fun l => (∀ x ∈ l, x < top) ∧ l.length * 32 ≤ 140737488351232) := (Cod.slice cod_e u44 c44 0).mono fun l h => by
  obtain ⟨h1, h2⟩ := h
  rw [by56, reachBytes] at h2
  exact ⟨h1, h2⟩
theorem u25 : Try.prog.underlying 25 = some (.slice 139) := by kernel_rfl
theorem c25 : Try.prog.cellsOf 25 = 1 := by kernel_rfl
theorem cod_ks : Cod Try.prog 25 1 (fun (l : List (Int × Int)) _ => .s false 2 l.length (cK l)) (fun l => (∀ x ∈ l, i64 x.1 ∧ i64 x.2) ∧ l.length * 16 ≤ 140737488351232) := (Cod.slice cod_k u25 c25 (0, 0)).mono fun l h => by
  obtain ⟨h1, h2⟩ := h
  rw [by139, reachBytes] at h2
  exact ⟨h1, h2⟩
theorem u86 : Try.prog.underlying 86 = some (.struct #[⟨"Inputs", 23, 0, false, "", "", 0⟩, ⟨"Tables", 23, 1, false, "", "", 24⟩]) := by kernel_rfl
theorem c86 : Try.prog.cellsOf 86 = 2 := by kernel_rfl
theorem cod_l : Cod Try.prog 86 2 lCell (fun x => ((∀ y ∈ x.1, i64 y) ∧ x.1.length * 8 ≤ 140737488351232) ∧ ((∀ y ∈ x.2, i64 y) ∧ x.2.length * 8 ≤ 140737488351232)) where
  cells := c86
  opn := by
    intro H enc w base sp hd n cs d p hl h hw
    obtain ⟨xs, k, _, hx, _, hxl, hf⟩ := DataW.trod_struct u86 h
    simp only [Prod.mk.injEq] at hx
    obtain ⟨rfl, rfl⟩ := hx
    have hW : ∀ x ∈ DataW.weightsEach Try.prog [23, 23] (xs.map (·.1)), x ≤ reachBytes := fun x hx => hw x (by simp only [DataW.weights, u86]; exact hx)
    have hxl : xs.length = 2 := hxl
    obtain ⟨x0, o0, r0⟩ := cod_is.field (off := 0) (hf 0 _ rfl) (by omega) hW rfl (by omega)
    obtain ⟨x1, o1, r1⟩ := cod_is.field (off := 1) (hf 1 _ rfl) (by omega) hW rfl (by omega)
    refine ⟨(x0, x1), ⟨o0, o1⟩, fun j hj => ?_⟩
    match j, hj with
    | 0, _ => exact r0 0 (by omega)
    | 1, _ => exact r1 0 (by omega)
theorem by86 : Try.prog.bytesOf 86 = 48 := by kernel_rfl
theorem u24 : Try.prog.underlying 24 = some (.slice 86) := by kernel_rfl
theorem c24 : Try.prog.cellsOf 24 = 1 := by kernel_rfl
theorem cod_ls : Cod Try.prog 24 1 (fun (l : List (List Int × List Int)) _ => .s false 2 l.length (cL l)) (fun l => (∀ x ∈ l, ((∀ y ∈ x.1, i64 y) ∧ x.1.length * 8 ≤ 140737488351232) ∧ ((∀ y ∈ x.2, i64 y) ∧ x.2.length * 8 ≤ 140737488351232)) ∧ l.length * 48 ≤ 140737488351232) := (Cod.slice cod_l u24 c24 ([], [])).mono fun l h => by
  obtain ⟨h1, h2⟩ := h
  rw [by86, reachBytes] at h2
  exact ⟨h1, h2⟩
theorem u27 : Try.prog.underlying 27 = some (.struct #[⟨"Fixed", 3, 0, false, "", "", 0⟩, ⟨"Advice", 3, 1, false, "", "", 8⟩, ⟨"Instance", 3, 2, false, "", "", 16⟩, ⟨"Nodes", 22, 3, false, "", "", 24⟩, ⟨"Gates", 23, 4, false, "", "", 48⟩, ⟨"Lookups", 24, 5, false, "", "", 72⟩, ⟨"Equal", 25, 6, false, "", "", 96⟩]) := by kernel_rfl
theorem c27 : Try.prog.cellsOf 27 = 7 := by kernel_rfl
theorem cod_c : Cod Try.prog 27 7 cirCell Cir.ok where
  cells := c27
  opn := by
    intro H enc w base sp hd n cs d p hl h hw
    obtain ⟨xs, k, _, hx, _, hxl, hf⟩ := DataW.trod_struct u27 h
    simp only [Prod.mk.injEq] at hx
    obtain ⟨rfl, rfl⟩ := hx
    have hW : ∀ x ∈ DataW.weightsEach Try.prog [3, 3, 3, 22, 23, 24, 25] (xs.map (·.1)), x ≤ reachBytes := fun x hx => hw x (by simp only [DataW.weights, u27]; exact hx)
    have hxl : xs.length = 7 := hxl
    obtain ⟨x0, o0, r0⟩ := cod_i.field (off := 0) (hf 0 _ rfl) (by omega) hW rfl (by omega)
    obtain ⟨x1, o1, r1⟩ := cod_i.field (off := 1) (hf 1 _ rfl) (by omega) hW rfl (by omega)
    obtain ⟨x2, o2, r2⟩ := cod_i.field (off := 2) (hf 2 _ rfl) (by omega) hW rfl (by omega)
    obtain ⟨x3, o3, r3⟩ := cod_ns.field (off := 3) (hf 3 _ rfl) (by omega) hW rfl (by omega)
    obtain ⟨x4, o4, r4⟩ := cod_is.field (off := 4) (hf 4 _ rfl) (by omega) hW rfl (by omega)
    obtain ⟨x5, o5, r5⟩ := cod_ls.field (off := 5) (hf 5 _ rfl) (by omega) hW rfl (by omega)
    obtain ⟨x6, o6, r6⟩ := cod_ks.field (off := 6) (hf 6 _ rfl) (by omega) hW rfl (by omega)
    refine ⟨⟨x0, x1, x2, x3, x4, x5, x6⟩, ⟨o0, o1, o2, o3, o4, o5, o6⟩, fun j hj => ?_⟩
    match j, hj with
    | 0, _ => exact r0 0 (by omega)
    | 1, _ => exact r1 0 (by omega)
    | 2, _ => exact r2 0 (by omega)
    | 3, _ => exact r3 0 (by omega)
    | 4, _ => exact r4 0 (by omega)
    | 5, _ => exact r5 0 (by omega)
    | 6, _ => exact r6 0 (by omega)
end Go.Proofs.Ytlmjdcbhpffanaa
/- ExprMemory: the walk. -/
namespace Go.Pl
open Go.Sx
theorem qsN_len : ∀ (l : List Nd) (out : List (Int × Int × Int)), (qsN out l).length ≤ out.length + l.length
  | [], out => by rw [qsN]; exact Nat.le_add_right _ _
  | x :: r, out => by
    rw [qsN]
    split
    · have := qsN_len r (out ++ [(x.op, x.a, x.b)])
      rw [List.length_append] at this
      simp only [List.length_cons, List.length_nil] at this ⊢
      omega
    · have := qsN_len r out
      rw [List.length_cons]
      omega
theorem coneN_len (l : List Nd) (root : Int) : (coneN l root).length ≤ l.length := by
  rw [coneN]
  split
  · rename_i h
    rw [List.length_map]
    refine Nat.le_trans (List.length_filter_le _ _) ?_
    rw [List.length_range]
    omega
  · exact Nat.zero_le _
end Go.Pl
namespace Go.Proofs.Ytlmjdcbhpffanaa
open Go.Sx Go.Pl
set_option linter.unusedVariables false
set_option maxRecDepth 100000
end Go.Proofs.Ytlmjdcbhpffanaa
/- Values and degrees, place by place; where all degrees are 1 at most the values are linear. -/
namespace Go.Pl
open Go.Sx
theorem valsN_pre {s : Int} {qs : List Qy} {vs : List Nat} : ∀ (l : List Nd) (pre out : List Nat), valsN s qs vs pre l = some out → out.take pre.length = pre ∧ out.length = pre.length + l.length
  | [], pre, out, h => by
    simp only [valsN, Option.some.injEq] at h
    subst h
    simp
  | x :: r, pre, out, h => by
    rw [valsN] at h
    split at h
    · cases h
    · rename_i v hv
      obtain ⟨h1, h2⟩ := valsN_pre r _ out h
      rw [List.length_append] at h1 h2
      simp only [List.length_cons, List.length_nil] at h1 h2 ⊢
      refine ⟨?_, by omega⟩
      have := congrArg (List.take pre.length) h1
      rw [List.take_take, List.take_left' rfl, show min pre.length (pre.length + (0 + 1)) = pre.length by omega] at this
      exact this
def hasQ (qs : List Qy) (l : List Nd) : Prop := ∀ x ∈ l, 2 ≤ x.op ∧ x.op ≤ 4 → (x.op, x.a, x.b) ∈ qs
theorem valD_some {s : Int} {qs : List Qy} {vs out : List Nat} {x : Nd} (h : 2 ≤ x.op ∧ x.op ≤ 4 → (x.op, x.a, x.b) ∈ qs) (hop : 1 ≤ x.op ∧ x.op ≤ 8) : ∃ v, valD s qs vs out x = some v := by
  by_cases hq : 2 ≤ x.op ∧ x.op ≤ 4
  · rw [valD_q s qs vs out hq, if_neg (by have := (idx_has x.op x.a x.b qs).2 (h hq); omega)]
    exact ⟨_, rfl⟩
  · have : x.op = 1 ∨ x.op = 5 ∨ x.op = 6 ∨ x.op = 7 ∨ x.op = 8 := by omega
    rcases this with h | h | h | h | h
    · exact ⟨_, valD_c s qs vs out h⟩
    · exact ⟨_, valD_n s qs vs out h⟩
    · exact ⟨_, valD_a s qs vs out h⟩
    · exact ⟨_, valD_m s qs vs out h⟩
    · exact ⟨_, valD_s s qs vs out h⟩
theorem valsN_total {s : Int} {qs : List Qy} {vs : List Nat} : ∀ (l : List Nd) (pre : List Nat), hasQ qs l → (∀ x ∈ l, 1 ≤ x.op ∧ x.op ≤ 8) → ∃ out, valsN s qs vs pre l = some out
  | [], pre, _, _ => ⟨pre, rfl⟩
  | x :: r, pre, h, ho => by
    obtain ⟨v, hv⟩ := valD_some (s := s) (vs := vs) (out := pre) (h x (by simp)) (ho x (by simp))
    rw [valsN_some hv]
    exact valsN_total r _ (fun y hy => h y (List.mem_cons_of_mem _ hy)) (fun y hy => ho y (List.mem_cons_of_mem _ hy))
theorem qsN_sub : ∀ (l : List Nd) (out : List Qy), ∀ q ∈ out, q ∈ qsN out l
  | [], out, q, h => by rw [qsN]; exact h
  | x :: r, out, q, h => by
    rw [qsN]
    split
    · exact qsN_sub r _ q (List.mem_append_left _ h)
    · exact qsN_sub r _ q h
theorem qsN_has : ∀ (l : List Nd) (out : List Qy), hasQ (qsN out l) l
  | [], out, x, h, _ => by cases h
  | y :: r, out, x, h, hq => by
    rcases List.mem_cons.1 h with rfl | h
    · by_cases hm : (x.op, x.a, x.b) ∈ out
      · exact qsN_sub _ _ _ hm
      · rw [qsN_new out r hq hm]
        exact qsN_sub _ _ _ (by simp)
    · rw [qsN]
      split
      · exact qsN_has r _ x h hq
      · exact qsN_has r _ x h hq
end Go.Pl
/- What a node hangs on: its cone alone. -/
namespace Go.Pl
open Go.Sx
theorem vlR_okc {s : Int} {qs : List Qy} {vs : List Nat} {l : List Nd} (hs : fP s ≠ 0) (ho : ordN 0 l = true) (hl : vs.length = qs.length) (hh : hasQ qs l) : ∃ out, valsN s qs vs [] l = some out ∧ vlR s qs vs l = (out, 0) ∧ out.length = l.length := by
  obtain ⟨out, h⟩ := valsN_total (s := s) (qs := qs) (vs := vs) l [] hh (ordN_op l 0 ho)
  refine ⟨out, h, ?_, by have := (valsN_pre l [] out h).2; simpa using this⟩
  rw [vlR, if_neg hs, if_neg (by rw [ho]; simp), if_neg (by omega), h]
def inC (l : List Nd) (root k : Nat) : Bool := (marksN l (root + 1) ((List.replicate l.length false).set root true)).getD k false
theorem cone_eq {l : List Nd} {root : Int} (ho : ordN 0 l = true) (h0 : 0 ≤ root) (h1 : root < (l.length : Int)) : coneN l root = ((List.range (root.toNat + 1)).filter fun i => inC l root.toNat i).map fun (i : Nat) => (i : Int) := by
  rw [coneN, if_pos ⟨ho, h0, h1⟩]; rfl
theorem cone_some {l : List Nd} {root : Int} (h : coneN l root ≠ []) : ordN 0 l = true ∧ 0 ≤ root ∧ root < (l.length : Int) := by
  by_cases hc : ordN 0 l = true ∧ 0 ≤ root ∧ root < (l.length : Int)
  · exact hc
  · rw [coneN, if_neg hc] at h
    exact absurd rfl h
end Go.Pl
/- A row of one's own that is given up: from now on it is frozen memory. -/
namespace Go.Sx
open Go.RowKit
mutual
def frzS (i n : Nat) : SV → SV
  | .o j => bif Nat.beq j i then .x n [] else .o j
  | .agg cs => .agg (frzL i n cs)
  | .tup cs => .tup (frzL i n cs)
  | .fn f a c => .fn f (frzL i n a) (frzL i n c)
  | .ifc t y => .ifc t (frzS i n y)
  | .v x => .v x
  | .bl b => .bl b
  | .p j off => .p j off
  | .q j off => .q j off
  | .m j => .m j
  | .sl j off len cap => .sl j off len cap
  | .x j p => .x j p
  | .xp j p sz k c => .xp j p sz k c
  | .qk j sz k c => .qk j sz k c
def frzL (i n : Nat) : List SV → List SV
  | [] => []
  | x :: r => frzS i n x :: frzL i n r
end
mutual
theorem den_frz (i n : Nat) (e : Env) (h : e.val n [] = e.row i) : ∀ s, den e (frzS i n s) = den e s
  | .o j => by
    simp only [frzS]
    cases hb : Nat.beq j i with
    | true => rw [cond_true, den, den, h, Nat.eq_of_beq_eq_true hb]
    | false => rfl
  | .agg cs => by simp only [frzS, den, denL_frz i n e h cs]
  | .tup cs => by simp only [frzS, den, denL_frz i n e h cs]
  | .fn f a c => by simp only [frzS, den, denL_frz i n e h a, denL_frz i n e h c]
  | .ifc t y => by simp only [frzS, den, den_frz i n e h y]
  | .v x => rfl
  | .bl b => rfl
  | .p j off => rfl
  | .q j off => rfl
  | .m j => rfl
  | .sl j off len cap => rfl
  | .x j p => rfl
  | .xp j p sz k c => rfl
  | .qk j sz k c => rfl
theorem denL_frz (i n : Nat) (e : Env) (h : e.val n [] = e.row i) : ∀ l, denL e (frzL i n l) = denL e l
  | [] => rfl
  | x :: r => by simp only [frzL, denL, den_frz i n e h x, denL_frz i n e h r]
end
mutual
theorem ws_frz (i n m : Nat) (h : n < m) : ∀ s, ws m s → ws m (frzS i n s)
  | .o j, hs => by
    simp only [frzS]
    cases Nat.beq j i with
    | true => exact h
    | false => exact hs
  | .agg cs, hs => wsL_frz i n m h cs hs
  | .tup cs, hs => wsL_frz i n m h cs hs
  | .fn f a c, hs => ⟨wsL_frz i n m h a hs.1, wsL_frz i n m h c hs.2⟩
  | .ifc t y, hs => ws_frz i n m h y hs
  | .v x, _ => trivial
  | .bl b, _ => trivial
  | .p j off, hs => hs
  | .q j off, hs => hs
  | .m j, hs => hs
  | .sl j off len cap, hs => hs
  | .x j p, hs => hs
  | .xp j p sz k c, hs => hs
  | .qk j sz k c, hs => hs
theorem wsL_frz (i n m : Nat) (h : n < m) : ∀ l, wsL m l → wsL m (frzL i n l)
  | [], _ => trivial
  | x :: r, hs => ⟨ws_frz i n m h x hs.1, wsL_frz i n m h r hs.2⟩
end
def frzT (i n : Nat) : List (Nat × SV) → List (Nat × SV)
  | [] => []
  | (t, s) :: r => (t, frzS i n s) :: frzT i n r
theorem lk_frzT (i n : Nat) : ∀ (l : List (Nat × SV)) {t : Nat} {s : SV}, lk (frzT i n l) t = some s → ∃ s0, lk l t = some s0 ∧ s = frzS i n s0
  | [], t, s, h => by cases h
  | (u, x) :: r, t, s, h => by
    simp only [frzT, lk] at h ⊢
    cases hb : Nat.beq u t with
    | true =>
      rw [hb] at h
      simp only [cond_true, Option.some.injEq] at h
      exact ⟨x, rfl, h.symm⟩
    | false =>
      rw [hb] at h
      exact lk_frzT i n r h
theorem FOk.frz {P : Program} {m : Nat} {fn : Func} {Q : SV → List HO → Prop} {k : List It} {tm : List (Nat × SV)} {h : List HO} (i : Nat) {T : TypeId} {sz n : Nat} {c : Ct} (hi : h[i]? = some (.rowc T sz n c))
    (hk : FOkM P m fn Q k ⟨frzT i h.length tm, h.set i .gone ++ [.ext false (.s false sz n c.at)]⟩) : FOkM P m fn Q k ⟨tm, h⟩ := by
  intro F hF w0 hw0 e a w S T0
  have hlt := (List.getElem?_eq_some_iff.1 hi).1
  obtain ⟨S1, hle⟩ := S.drop hF i hlt
  obtain ⟨vals, h1, _, h2⟩ := S.sat i _ hi
  obtain ⟨f, f1, f2, f3⟩ := S.frozen hi rfl h1 hle h2
  have S2 := S1.newExt hF false (.s false sz n c.at) f f1 (by simpa using f3)
  rw [List.length_set] at S2
  have hag := agree_setV e h.length f f1
  have hv : (e.setV h.length f f1).val h.length [] = (e.setV h.length f f1).row i := by
    have : (e.setV h.length f f1).val h.length = f := by simp [Env.setV]
    rw [this, f2]; rfl
  refine hk F hF w0 hw0 _ a w S2 ⟨T0.size, T0.defers, fun t s hs => ?_, fun t s hs => ?_⟩
  · obtain ⟨s0, q1, rfl⟩ := lk_frzT i _ tm hs
    rw [den_frz i _ _ hv, T0.get t s0 q1, den_agree hag s0 (T0.wsc t s0 q1)]
  · obtain ⟨s0, q1, rfl⟩ := lk_frzT i _ tm hs
    have hl : (h.set i HO.gone ++ [HO.ext false (.s false sz n c.at)]).length = h.length + 1 := by simp
    show ws (h.set i HO.gone ++ [HO.ext false (.s false sz n c.at)]).length _
    rw [hl]
    exact ws_frz i _ _ (Nat.lt_succ_self _) s0 (ws_mono (Nat.le_succ _) s0 (T0.wsc t s0 q1))
theorem FnOk.frz1 {P : Program} {m : Nat} {f : FuncId} {args : List SV} {h : List HO} {r0 : SV} {h0 : List HO} (i : Nat) {T : TypeId} {sz n : Nat} {c : Ct} (hi : h0[i]? = some (.rowc T sz n c))
    (k : FnOkM P m f args h fun r h' => r = r0 ∧ h' = h0) : FnOkM P m f args h fun r h' => r = frzS i h0.length r0 ∧ h' = h0.set i .gone ++ [.ext false (.s false sz n c.at)] := by
  intro F hF w0 e hm0 S hw
  refine (k F hF w0 e hm0 S hw).mono fun E w' hE => ?_
  obtain ⟨e1, r, h', ⟨rfl, rfl⟩, h2, S, h4⟩ := hE
  have hlt := (List.getElem?_eq_some_iff.1 hi).1
  obtain ⟨S1, hle⟩ := S.drop hF i hlt
  obtain ⟨vals, h1, _, h2'⟩ := S.sat i _ hi
  obtain ⟨f, f1, f2, f3⟩ := S.frozen hi rfl h1 hle h2'
  have S2 := S1.newExt hF false (.s false sz n c.at) f f1 (by simpa using f3)
  rw [List.length_set] at S2
  have hag := agree_setV e1 h'.length f f1
  have hv : (e1.setV h'.length f f1).val h'.length [] = (e1.setV h'.length f f1).row i := by
    have : (e1.setV h'.length f f1).val h'.length = f := by simp [Env.setV]
    rw [this, f2]; rfl
  have hl : (h'.set i HO.gone ++ [HO.ext false (.s false sz n c.at)]).length = h'.length + 1 := by simp
  refine ⟨_, _, _, ⟨rfl, rfl⟩, ?_, S2, ?_⟩
  · rw [hl]
    exact ws_frz i _ _ (Nat.lt_succ_self _) r (ws_mono (Nat.le_succ _) r h2)
  · rw [h4, den_frz i _ _ hv, den_agree hag r h2]
theorem FnOk.gc {P : Program} {m : Nat} {f : FuncId} {args : List SV} {h : List HO} {r0 r1 : SV} {h0 h1 : List HO} (hg : gcS m r0 h0 = some (r1, h1))
    (k : FnOkM P m f args h fun r h' => r = r0 ∧ h' = h0) : FnOkM P m f args h fun r h' => r = r1 ∧ h' = h1 := by
  intro F hF w0 e hm0 S hw
  refine (k F hF w0 e hm0 S hw).mono fun E w' hE => ?_
  obtain ⟨e1, r, h', ⟨rfl, rfl⟩, h2, S, h4⟩ := hE
  obtain ⟨e2, S2, d2, w2⟩ := gcS_sound hF hm0 S hg
  exact ⟨e2, r1, h1, ⟨rfl, rfl⟩, w2, S2, by rw [h4, d2]⟩
end Go.Sx
/- Lists of integers: copied; of queries: compared. -/
namespace Go.Pl
open Go.Sx
structure lI (n : Nat) (c : Nat → Nat → Cell) (k : List Int → Prop) : Prop where
  h : ∃ l : List Int, n = l.length ∧ IsC n 1 c (cI l) ∧ l.length ≤ 17592186043904 ∧ k l
structure lI2 (n n2 : Nat) (c c2 : Nat → Nat → Cell) (k : List Int → List Int → Prop) : Prop where
  h : ∃ l l2 : List Int, n = l.length ∧ IsC n 1 c (cI l) ∧ n2 = l2.length ∧ IsC n2 1 c2 (cI l2) ∧ l.length ≤ 17592186043904 ∧ k l l2
structure lQ2 (n n2 : Nat) (c c2 : Nat → Nat → Cell) (k : List (Int × Int × Int) → List (Int × Int × Int) → Prop) : Prop where
  h : ∃ l l2 : List (Int × Int × Int), n = l.length ∧ IsC n 3 c (cQ l) ∧ n2 = l2.length ∧ IsC n2 3 c2 (cQ l2) ∧ l.length ≤ 4398046511104 ∧ k l l2
end Go.Pl
namespace Go.Proofs.Ytlmjdcbhpffanaa
open Go.Sx Go.Pl
set_option linter.unusedVariables false
set_option maxRecDepth 100000
theorem ciS (l : List Int) (K : List It → St → Prop) (R : SV → List HO → Prop) : W (xwp Try.prog X K31 [] 60 (fxOf Try.f35 [] []) [] [.at []] ⟨argsS 0 [.x 0 []], [.ext false (.s false 1 l.length (cI l))]⟩ K R) = W ((∀ M : Mem, (0 + List.length l) * 8 ≤ 140737488355328 ∧ 0 + List.length l ≤ 140737488355328) ∧ R (.o 0) [.rowc 3 1 (0 + List.length l) (.app 0 (.lit 1 []) (.fn (cI l)))]) := by kernel_rfl
theorem si2_loop (b b2 : Bool) (l l2 : List Int) (hl : l.length = l2.length) (hb : l.length ≤ 17592186043904) (Q : SV → List HO → Prop) (hq1 : (∀ k, k < l.length → gI l k = gI l2 k) → Q (.v (.bool true)) []) (hq0 : (∃ k, k < l.length ∧ ¬ (gI l k = gI l2 k)) → Q (.v (.bool false)) []) :
    ∀ (d k : Nat), k + d = l.length → (∀ k', k' < k → gI l k' = gI l2 k') →
    FOk Try.prog Try.f17 Q (.rnd [0,0,1,0,1,1] (d + 1) :: [.blk 0, .at [1,1,1]]) ⟨[(5, .v (.int .i64 (k : Int))), (4, .v (.bool false)), (0, .x 0 []), (1, .x 1 [])], [.ext b (.s false 1 l.length (cI l)), .ext b2 (.s false 1 l2.length (cI l2))]⟩
  | 0, k, hd, he => by
    refine FOk.rnd (run_sound hm 60 ((siR b b2 l l2 l.length l2.length k 0 _ _).mpr ⟨?_⟩))
    simp only [cond_dec]
    rw [if_neg (by omega)]
    exact hq1 fun k' hk' => he k' (by omega)
  | d + 1, k, hd, he => by
    refine FOk.rnd (run_sound hm 60 ((siR b b2 l l2 l.length l2.length k (d + 1) _ _).mpr ⟨?_⟩))
    simp only [cond_dec, cond_not, cond_beq, forall_const]
    rw [if_pos (by omega)]
    repeat' (first | refine And.intro (by omega) ?_ | refine ite_intro (fun h => ?_) (fun h => ?_))
    · rw [wrap_inc _ (by omega)]
      refine si2_loop b b2 l l2 hl hb Q hq1 hq0 d (k + 1) (by omega) fun k' hk' => ?_
      by_cases hh : k' = k
      · rw [hh]; exact h
      · exact he k' (by omega)
    · exact hq0 ⟨k, by omega, h⟩
theorem bsi2 : Try.f17.body.isSome = true := by kernel_rfl
theorem nsi2 : Nat.ble [SV.x 0 [], .x 1 []].length Try.f17.ntmps = true := by kernel_rfl
theorem si2_ok (b b2 : Bool) (l l2 : List Int) (hb : l.length ≤ 17592186043904) (Q : SV → List HO → Prop) (hq1 : l.length = l2.length → (∀ k, k < l.length → gI l k = gI l2 k) → Q (.v (.bool true)) []) (hq0 : (l.length ≠ l2.length ∨ ∃ k, k < l.length ∧ ¬ (gI l k = gI l2 k)) → Q (.v (.bool false)) []) : FnOk Try.prog 17 [.x 0 [], .x 1 []] [.ext b (.s false 1 l.length (cI l)), .ext b2 (.s false 1 l2.length (cI l2))] Q := by
  refine fn_of_ok Try.func17 bsi2 ?_ ?_
  · exact nsi2
  refine run_sound hm 60 ((siS b b2 l l2 l.length l2.length _ _).mpr ⟨?_⟩)
  simp only [cond_not, cond_beq]
  refine ite_intro (fun h => ?_) (fun h => hq0 (.inl (by omega)))
  have h' : l.length = l2.length := by omega
  exact FOk.loop (l.length + 1) (by kernel_rfl) (si2_loop b b2 l l2 h' hb Q (hq1 h') (fun hh => hq0 (.inr hh)) l.length 0 (by omega) fun k' hk' => by omega)
noncomputable def g_si2 : List SV → List HO → Option ((SV → List HO → Prop) → Prop)
  | [.x 0 [], .x 1 []], [.ext _ (.s false 1 n c), .ext _ (.s false 1 n2 c2)] => some fun Q => lI2 n n2 c c2 fun l l2 => Q (.v (.bool (decide (l = l2)))) []
  | _, _ => none
theorem g_si2_ok (args : List SV) (h : List HO) (tr : (SV → List HO → Prop) → Prop) (Q : SV → List HO → Prop) (hc : g_si2 args h = some tr) (ht : tr Q) : FnOk Try.prog 17 args h Q := by
  unfold g_si2 at hc
  split at hc
  · rename_i b n c b2 n2 c2
    simp only [Option.some.injEq] at hc
    subst hc
    obtain ⟨l, l2, rfl, he, rfl, he2, hb, hq⟩ := ht.h
    refine FnOk.ac (si2_ok b b2 l l2 hb Q (fun h1 h2 => ?_) (fun h1 => ?_)) ⟨⟨rfl, rfl, rfl, rfl, he⟩, ⟨rfl, rfl, rfl, rfl, he2⟩, trivial⟩
    · rw [decide_eq_true (ext_gI h1 h2)] at hq; exact hq
    · rw [decide_eq_false (fun hh => by subst hh; exact h1.elim (fun h => h rfl) (fun ⟨_, _, h⟩ => h rfl))] at hq; exact hq
  · cases hc
theorem bci : Try.f35.body.isSome = true := by kernel_rfl
theorem nci : Nat.ble [SV.x 0 []].length Try.f35.ntmps = true := by kernel_rfl
theorem ci_ok (all : List Int) (hb : all.length ≤ 17592186043904) (Q : SV → List HO → Prop) (hq : Q (.o 0) [.rowc 3 1 all.length (.fn (cI all))]) : FnOk Try.prog 35 [.x 0 []] [.ext false (.s false 1 all.length (cI all))] Q := by
  refine FnOk.mono (FnOk.eqv (r0 := .o 0) (h0 := [.rowc 3 1 all.length (.fn (cI all))]) ?_) (fun r h' hh => by rw [hh.1, hh.2]; exact hq)
  refine fn_of_ok Try.func35 bci ?_ ?_
  · exact nci
  refine run_sound hm 60 ((ciS all _ _).mpr ⟨?_⟩)
  refine ⟨fun _ => by omega, rfl, ⟨rfl, rfl, by omega, fun k hk j hj => ?_⟩, trivial⟩
  exact appC_ge _ _ _ (Nat.zero_le _)
theorem cix_ok (all : List Int) (hb : all.length ≤ 17592186043904) (Q : SV → List HO → Prop) (hq : Q (.x 0 []) [.ext false (.s false 1 all.length (cI all))]) : FnOk Try.prog 35 [.x 0 []] [.ext false (.s false 1 all.length (cI all))] Q := by
  have h := FnOk.gc (r1 := .x 0 []) (h1 := [.ext false (.s false 1 all.length (cI all))]) rfl (FnOk.frz1 0 rfl (ci_ok all hb (fun r h' => r = .o 0 ∧ h' = [.rowc 3 1 all.length (.fn (cI all))]) ⟨rfl, rfl⟩))
  exact FnOk.mono h fun r h' hh => by rw [hh.1, hh.2]; exact hq
noncomputable def g_ci : List SV → List HO → Option ((SV → List HO → Prop) → Prop)
  | [.x 0 []], [.ext false (.s false 1 n c)] => some fun Q => lI n c fun l => Q (.x 0 []) [.ext false (.s false 1 l.length (cI l))]
  | _, _ => none
theorem g_ci_ok (args : List SV) (h : List HO) (tr : (SV → List HO → Prop) → Prop) (Q : SV → List HO → Prop) (hc : g_ci args h = some tr) (ht : tr Q) : FnOk Try.prog 35 args h Q := by
  unfold g_ci at hc
  split at hc
  · rename_i n c
    simp only [Option.some.injEq] at hc
    subst hc
    obtain ⟨l, rfl, he, hb, hq⟩ := ht.h
    exact FnOk.ac (cix_ok l hb Q hq) ⟨⟨rfl, rfl, rfl, rfl, he⟩, trivial⟩
  · cases hc
noncomputable def K44 : Con Try.prog := ((K31).add 17 g_si2 g_si2_ok).add 35 g_ci g_ci_ok
end Go.Proofs.Ytlmjdcbhpffanaa
/- A circuit as new memory. -/
namespace Go.Pl
open Go.Sx
theorem cL_snoc {l : List (List Int × List Int)} {k : Nat} (a b : List Int) (h : l.length = k) : IsC (k + 1) 2 (Ct.app k (.fn (cL l)) (.lit 2 [.s false 1 a.length (cI a), .s false 1 b.length (cI b)])).at (Ct.fn (cL (l ++ [(a, b)]))).at := by
  subst h
  exact ofL_snoc lCell ([], []) 2 l (a, b) _ fun j hj => by
    match j, hj with
    | 0, _ => rfl
    | 1, _ => rfl
theorem gL_mem {l : List (List Int × List Int)} {k : Nat} (h : k < l.length) : gL l k ∈ l := by
  rw [gL, List.getD_eq_getElem?_getD, List.getElem?_eq_getElem h]
  exact List.getElem_mem h
theorem take_gL {l : List (List Int × List Int)} {k : Nat} (h : k < l.length) : l.take k ++ [((gL l k).1, (gL l k).2)] = l.take (k + 1) := by
  rw [List.take_add_one, List.getElem?_eq_getElem h, gL, List.getD_eq_getElem?_getD, List.getElem?_eq_getElem h]
  rfl
structure lC (fx ad ins : Int) (n0 n1 n2 n3 : Nat) (c0 c1 c2 c3 : Nat → Nat → Cell) (k : Cir → Prop) : Prop where
  h : ∃ c : Cir, fx = c.fx ∧ ad = c.ad ∧ ins = c.ins ∧ (n0 = c.nodes.length ∧ IsC n0 7 c0 (cN c.nodes)) ∧ (n1 = c.gates.length ∧ IsC n1 1 c1 (cI c.gates)) ∧ (n2 = c.looks.length ∧ IsC n2 2 c2 (cL c.looks)) ∧ (n3 = c.eqs.length ∧ IsC n3 2 c3 (cK c.eqs)) ∧ c.ok ∧ k c
theorem lC_mk (c : Cir) (hc : c.ok) {k : Cir → Prop} (h : k c) : lC c.fx c.ad c.ins c.nodes.length c.gates.length c.looks.length c.eqs.length (cN c.nodes) (cI c.gates) (cL c.looks) (cK c.eqs) k :=
  ⟨⟨c, rfl, rfl, rfl, ⟨rfl, IsC.refl _ _ _⟩, ⟨rfl, IsC.refl _ _ _⟩, ⟨rfl, IsC.refl _ _ _⟩, ⟨rfl, IsC.refl _ _ _⟩, hc, h⟩⟩
end Go.Pl
namespace Go.Proofs.Ytlmjdcbhpffanaa
open Go.Sx Go.Pl
set_option linter.unusedVariables false
set_option maxRecDepth 100000
theorem ccS (c : Cir) (K : List It → St → Prop) (R : SV → List HO → Prop) : W (xwp Try.prog X K44 [] 60 (fxOf Try.f13 [] [⟨[0,1,0,1,1,1,1], [4,3,1,2], []⟩]) [] [.at []] ⟨argsS 0 [.agg [.v (.int .i64 c.fx), .v (.int .i64 c.ad), .v (.int .i64 c.ins), .x 0 [], .x 1 [], .x 2 [], .x 3 []]], [.ext false (.s false 7 c.nodes.length (cN c.nodes)), .ext false (.s false 1 c.gates.length (cI c.gates)), .ext false (.s false 2 c.looks.length (cL c.looks)), .ext false (.s false 2 c.eqs.length (cK c.eqs))]⟩ K R) = W (∃ (l : List Nd), List.length c.4 = List.length l ∧ IsC c.4.length 7 (cN c.4) (cN l) ∧ List.length l ≤ 2513169434916 ∧ (∀ M : Mem, 3 + 1 ≤ 7) ∧ lI c.5.length (cI c.5) fun (l_1 : List Int) => (∀ M : Mem, 4 + 1 ≤ 7) ∧ K [.at [0,1,0,1,1,1,1], .blk 0, .at [1,1,1,1,1]] (St.mk [(4, .v (vi64 0)), (3, .o 0), (1, .p 1 0), (2, .p 2 0)] [.rowc 86 2 0 (.lit 2 []), .cells [.v (vi64 c.1), .v (vi64 c.2), .v (vi64 c.3), .o 3, .x 4 [], .x 5 [], .x 6 []] 27, .cells [.v (vi64 0), .v (vi64 0), .v (vi64 0), .v (Value.slice none 0 0), .v (Value.slice none 0 0), .v (Value.slice none 0 0), .v (Value.slice none 0 0)] 27, .rowc 113 7 (List.length l) (.fn (cN l)), .ext false (.s false 1 (List.length l_1) (cI l_1)), .ext false (.s false 2 c.6.length (cL c.6)), .ext false (.s false 2 c.7.length (cK c.7))])) := by kernel_rfl
theorem ccR (c : Cir) (ls : List (List Int × List Int)) (m k M : Nat) (K : List It → St → Prop) (R : SV → List HO → Prop) : W (xwp Try.prog X K44 [] 60 (fxOf Try.f13 [] [⟨[0,1,0,1,1,1,1], [4,3,1,2], []⟩]) [] (.at [0,0,1,0,1,1,1,1] :: .rnd [0,0,1,0,1,1,1,1] M :: [.blk 0, .at [1,1,1,1,1]]) ⟨[(4, .v (.int .i64 (k : Int))), (3, .o 0), (1, .p 1 0), (2, .p 2 0)], [.rowc 86 2 m (.fn (cL ls)), .cells [.v (.int .i64 c.fx), .v (.int .i64 c.ad), .v (.int .i64 c.ins), .o 3, .x 4 [], .x 5 [], .x 6 []] 27, .cells [.v (.int .i64 0), .v (.int .i64 0), .v (.int .i64 0), .v (.slice none 0 0), .v (.slice none 0 0), .v (.slice none 0 0), .v (.slice none 0 0)] 27, .rowc 113 7 c.nodes.length (.fn (cN c.nodes)), .ext false (.s false 1 c.gates.length (cI c.gates)), .ext false (.s false 2 c.looks.length (cL c.looks)), .ext false (.s false 2 c.eqs.length (cK c.eqs))]⟩ K R) = W (bif decide ((↑k : Int) < (↑c.6.length : Int)) then (∀ M : Mem, (0 : Int) ≤ (↑k : Int) ∧ (↑k : Int) < (↑c.6.length : Int)) ∧ (∀ M : Mem, k < List.length c.6) ∧ (∀ M : Mem, k < List.length c.6) ∧ (∀ M : Mem, (0 : Int) ≤ (↑k : Int) ∧ (↑k : Int) < (↑c.6.length : Int)) ∧ (∀ M : Mem, k < List.length c.6) ∧ (∀ M : Mem, k < List.length c.6) ∧ (∀ M : Mem, k < List.length c.6) ∧ lI (List.length (gL c.6 k).1) (cI (gL c.6 k).1) fun (l : List Int) => (∀ M : Mem, k < List.length c.6) ∧ lI (List.length (gL c.6 k).2) (cI (gL c.6 k).2) fun (l_1 : List Int) => (∀ M : Mem, (m + 1) * 48 ≤ 140737488355328 ∧ m + 1 ≤ 140737488355328) ∧ K [.rnd [0,0,1,0,1,1,1,1] M, .blk 0, .at [1,1,1,1,1]] (St.mk [(4, .v (vi64 (IntKind.wrap .i64 ((↑k : Int) + (1 : Int))))), (3, .o 0), (1, .p 1 0), (2, .p 2 0)] [.rowc 86 2 (m + 1) (.app m (.fn (cL ls)) (.lit 2 [.s false 1 (List.length l) (cI l), .s false 1 (List.length l_1) (cI l_1)])), .cells [.v (vi64 c.1), .v (vi64 c.2), .v (vi64 c.3), .o 3, .x 4 [], .x 5 [], .x 6 []] 27, .cells [.v (vi64 0), .v (vi64 0), .v (vi64 0), .v (Value.slice none 0 0), .v (Value.slice none 0 0), .v (Value.slice none 0 0), .v (Value.slice none 0 0)] 27, .rowc 113 7 c.4.length (.fn (cN c.4)), .ext false (.s false 1 c.5.length (cI c.5)), .ext false (.s false 2 c.6.length (cL c.6)), .ext false (.s false 2 c.7.length (cK c.7))]) else (∀ M : Mem, 6 ≤ 7) ∧ (∀ M : Mem, (0 + List.length c.7) * 16 ≤ 140737488355328 ∧ 0 + List.length c.7 ≤ 140737488355328) ∧ (∀ M : Mem, 6 + 1 ≤ 7) ∧ (∀ M : Mem, 0 + 7 ≤ 7) ∧ R (.agg [.v (vi64 c.1), .v (vi64 c.2), .v (vi64 c.3), .o 0, .x 1 [], .o 2, .o 3]) [.rowc 113 7 c.4.length (.fn (cN c.4)), .ext false (.s false 1 c.5.length (cI c.5)), .rowc 86 2 m (.fn (cL ls)), .rowc 139 2 (0 + List.length c.7) (.app 0 (.lit 2 []) (.fn (cK c.7)))]) := by kernel_rfl
theorem cc_loop (c : Cir) (hc : c.ok) (Q : SV → List HO → Prop) (hq : Q (.agg [.v (.int .i64 c.fx), .v (.int .i64 c.ad), .v (.int .i64 c.ins), .o 0, .x 1 [], .o 2, .o 3]) [.rowc 113 7 c.nodes.length (.fn (cN c.nodes)), .ext false (.s false 1 c.gates.length (cI c.gates)), .rowc 86 2 c.looks.length (.fn (cL c.looks)), .rowc 139 2 (0 + c.eqs.length) (.app 0 (.lit 2 []) (.fn (cK c.eqs)))]) : ∀ (d k : Nat) (ls : List (List Int × List Int)), k + d = c.looks.length → ls = c.looks.take k →
    FOk Try.prog Try.f13 Q (.rnd [0,0,1,0,1,1,1,1] (d + 1) :: [.blk 0, .at [1,1,1,1,1]]) ⟨[(4, .v (.int .i64 (k : Int))), (3, .o 0), (1, .p 1 0), (2, .p 2 0)], [.rowc 86 2 k (.fn (cL ls)), .cells [.v (.int .i64 c.fx), .v (.int .i64 c.ad), .v (.int .i64 c.ins), .o 3, .x 4 [], .x 5 [], .x 6 []] 27, .cells [.v (.int .i64 0), .v (.int .i64 0), .v (.int .i64 0), .v (.slice none 0 0), .v (.slice none 0 0), .v (.slice none 0 0), .v (.slice none 0 0)] 27, .rowc 113 7 c.nodes.length (.fn (cN c.nodes)), .ext false (.s false 1 c.gates.length (cI c.gates)), .ext false (.s false 2 c.looks.length (cL c.looks)), .ext false (.s false 2 c.eqs.length (cK c.eqs))]⟩
  | 0, k, ls, hd, he => by
    have h1 := hc.e.2
    refine FOk.rnd (run_sound hm 60 ((ccR c ls k k 0 _ _).mpr ⟨?_⟩))
    rw [cond_dec, if_neg (by omega)]
    rw [show k = c.looks.length by omega, List.take_length] at he
    subst he
    rw [show k = c.looks.length by omega]
    exact And.intro (fun _ => by omega) (And.intro (fun _ => by omega) (And.intro (fun _ => by omega) (And.intro (fun _ => by omega) hq)))
  | d + 1, k, ls, hd, he => by
    have hk : k < c.looks.length := by omega
    have h1 := hc.l.2
    obtain ⟨⟨_, g1⟩, ⟨_, g2⟩⟩ := hc.l.1 _ (gL_mem hk)
    have hlen : ls.length = k := by rw [he, List.length_take]; omega
    refine FOk.rnd (run_sound hm 60 ((ccR c ls k k (d + 1) _ _).mpr ⟨?_⟩))
    rw [cond_dec, if_pos (by omega), wrap_inc _ (by omega)]
    refine And.intro (fun _ => by omega) (And.intro (fun _ => by omega) (And.intro (fun _ => by omega) (And.intro (fun _ => by omega) (And.intro (fun _ => by omega) (And.intro (fun _ => by omega) (And.intro (fun _ => by omega) (⟨⟨(gL c.looks k).1, rfl, IsC.refl _ _ _, by omega, And.intro (fun _ => hk) ⟨⟨(gL c.looks k).2, rfl, IsC.refl _ _ _, by omega, And.intro (fun _ => by omega) ?_⟩⟩⟩⟩)))))))
    exact FOk.cv (cc_loop c hc Q hq d (k + 1) (ls ++ [((gL c.looks k).1, (gL c.looks k).2)]) (by omega) (by rw [he, take_gL hk])) ⟨⟨rfl, rfl, rfl, cL_snoc _ _ hlen⟩, HE.refl _, HE.refl _, HE.refl _, HE.refl _, HE.refl _, HE.refl _, trivial⟩
theorem bCc : Try.f13.body.isSome = true := by kernel_rfl
theorem nCc (c : Cir) : Nat.ble [(.agg [.v (.int .i64 c.fx), .v (.int .i64 c.ad), .v (.int .i64 c.ins), .x 0 [], .x 1 [], .x 2 [], .x 3 []] : SV)].length Try.f13.ntmps = true := by kernel_rfl
theorem cc_ok (c : Cir) (hc : c.ok) (Q : SV → List HO → Prop) (hq : Q (.agg [.v (.int .i64 c.fx), .v (.int .i64 c.ad), .v (.int .i64 c.ins), .x 0 [], .x 1 [], .x 2 [], .x 3 []]) [.ext false (.s false 7 c.nodes.length (cN c.nodes)), .ext false (.s false 1 c.gates.length (cI c.gates)), .ext false (.s false 2 c.looks.length (cL c.looks)), .ext false (.s false 2 c.eqs.length (cK c.eqs))]) : FnOk Try.prog 13 [.agg [.v (.int .i64 c.fx), .v (.int .i64 c.ad), .v (.int .i64 c.ins), .x 0 [], .x 1 [], .x 2 [], .x 3 []]] [.ext false (.s false 7 c.nodes.length (cN c.nodes)), .ext false (.s false 1 c.gates.length (cI c.gates)), .ext false (.s false 2 c.looks.length (cL c.looks)), .ext false (.s false 2 c.eqs.length (cK c.eqs))] Q := by
  have h0 : FnOk Try.prog 13 [.agg [.v (.int .i64 c.fx), .v (.int .i64 c.ad), .v (.int .i64 c.ins), .x 0 [], .x 1 [], .x 2 [], .x 3 []]] [.ext false (.s false 7 c.nodes.length (cN c.nodes)), .ext false (.s false 1 c.gates.length (cI c.gates)), .ext false (.s false 2 c.looks.length (cL c.looks)), .ext false (.s false 2 c.eqs.length (cK c.eqs))] (fun r h' => r = .agg [.v (.int .i64 c.fx), .v (.int .i64 c.ad), .v (.int .i64 c.ins), .o 0, .x 1 [], .o 2, .o 3] ∧ HEs h' [.rowc 113 7 c.nodes.length (.fn (cN c.nodes)), .ext false (.s false 1 c.gates.length (cI c.gates)), .rowc 86 2 c.looks.length (.fn (cL c.looks)), .rowc 139 2 c.eqs.length (.fn (cK c.eqs))]) := by
    refine fn_of_ok Try.func13 bCc ?_ ?_
    · exact nCc c
    have h1 := hc.n.2
    have h2 := hc.g.2
    refine run_sound hm 60 ((ccS c _ _).mpr ⟨?_⟩)
    refine ⟨c.nodes, rfl, IsC.refl _ _ _, by omega, And.intro (fun _ => by omega) ⟨⟨c.gates, rfl, IsC.refl _ _ _, by omega, And.intro (fun _ => by omega) ?_⟩⟩⟩
    refine FOk.loop (c.looks.length + 1) (by kernel_rfl) (FOk.cv (cc_loop c hc _ ?_ c.looks.length 0 [] (by omega) rfl) ⟨⟨rfl, rfl, rfl, fun k hk => by omega⟩, HE.refl _, HE.refl _, HE.refl _, HE.refl _, HE.refl _, HE.refl _, trivial⟩)
    exact ⟨rfl, HE.refl _, HE.refl _, HE.refl _, ⟨rfl, rfl, Nat.zero_add _, fun k hk j hj => appC_ge _ _ _ (Nat.zero_le _)⟩, trivial⟩
  have h1 := FnOk.frz1 0 (T := 113) (sz := 7) (n := c.nodes.length) (c := .fn (cN c.nodes)) (by kernel_rfl) (FnOk.eqv h0)
  have h2 := FnOk.frz1 2 (T := 86) (sz := 2) (n := c.looks.length) (c := .fn (cL c.looks)) (by kernel_rfl) h1
  have h3 := FnOk.frz1 3 (T := 139) (sz := 2) (n := c.eqs.length) (c := .fn (cK c.eqs)) (by kernel_rfl) h2
  have h2 := FnOk.gc (r1 := .agg [.v (.int .i64 c.fx), .v (.int .i64 c.ad), .v (.int .i64 c.ins), .x 0 [], .x 1 [], .x 2 [], .x 3 []]) (h1 := [.ext false (.s false 7 c.nodes.length (cN c.nodes)), .ext false (.s false 1 c.gates.length (cI c.gates)), .ext false (.s false 2 c.looks.length (cL c.looks)), .ext false (.s false 2 c.eqs.length (cK c.eqs))]) (by kernel_rfl) h3
  exact FnOk.mono h2 fun r h' hh => by rw [hh.1, hh.2]; exact hq
noncomputable def gCc : List SV → List HO → Option ((SV → List HO → Prop) → Prop)
  | [.agg [.v (.int .i64 fx), .v (.int .i64 ad), .v (.int .i64 ins), .x 0 [], .x 1 [], .x 2 [], .x 3 []]], [.ext false (.s false 7 n0 c0), .ext false (.s false 1 n1 c1), .ext false (.s false 2 n2 c2), .ext false (.s false 2 n3 c3)] =>
    some fun Q => lC fx ad ins n0 n1 n2 n3 c0 c1 c2 c3 fun c => Q (.agg [.v (.int .i64 c.fx), .v (.int .i64 c.ad), .v (.int .i64 c.ins), .x 0 [], .x 1 [], .x 2 [], .x 3 []]) [.ext false (.s false 7 c.nodes.length (cN c.nodes)), .ext false (.s false 1 c.gates.length (cI c.gates)), .ext false (.s false 2 c.looks.length (cL c.looks)), .ext false (.s false 2 c.eqs.length (cK c.eqs))]
  | _, _ => none
theorem gCc_ok (args : List SV) (h : List HO) (tr : (SV → List HO → Prop) → Prop) (Q : SV → List HO → Prop) (hc : gCc args h = some tr) (ht : tr Q) : FnOk Try.prog 13 args h Q := by
  unfold gCc at hc
  split at hc
  · rename_i fx ad ins n0 c0 n1 c1 n2 c2 n3 c3
    simp only [Option.some.injEq] at hc
    subst hc
    obtain ⟨c, rfl, rfl, rfl, ⟨rfl, e0⟩, ⟨rfl, e1⟩, ⟨rfl, e2⟩, ⟨rfl, e3⟩, hk, hq⟩ := ht.h
    exact FnOk.ac (cc_ok c hk Q hq) ⟨⟨rfl, rfl, rfl, rfl, e0⟩, ⟨rfl, rfl, rfl, rfl, e1⟩, ⟨rfl, rfl, rfl, rfl, e2⟩, ⟨rfl, rfl, rfl, rfl, e3⟩, trivial⟩
  · cases hc
noncomputable def K45 : Con Try.prog := K44.add 13 gCc gCc_ok
end Go.Proofs.Ytlmjdcbhpffanaa
/- The queries of a cone. -/
namespace Go.Pl
open Go.Sx
def pick (ns : List Nd) (pl : List Int) : List Nd := pl.map fun i => gN ns i.toNat
def coneQ (c : Cir) (x : Int) : List (Int × Int × Int) := qsN [] (pick c.nodes (coneN c.nodes x))
theorem coneN_in (l : List Nd) (root : Int) : ∀ x ∈ coneN l root, 0 ≤ x ∧ x < (l.length : Int) := by
  intro x hx
  have hne : coneN l root ≠ [] := fun h => by rw [h] at hx; cases hx
  obtain ⟨ho, h0, h1⟩ := cone_some hne
  rw [cone_eq ho h0 h1, List.mem_map] at hx
  obtain ⟨i, hi, rfl⟩ := hx
  rw [List.mem_filter, List.mem_range] at hi
  omega
theorem take_gI {l : List Int} {k : Nat} (h : k < l.length) : l.take (k + 1) = l.take k ++ [gI l k] := by
  rw [List.take_add_one, List.getElem?_eq_getElem h, gI, List.getD_eq_getElem?_getD, List.getElem?_eq_getElem h]
  rfl
theorem pick_snoc {ns : List Nd} {pl : List Int} {k : Nat} (h : k < pl.length) : pick ns (pl.take (k + 1)) = pick ns (pl.take k) ++ [gN ns (gI pl k).toNat] := by
  rw [take_gI h, pick, List.map_append]; rfl
theorem pick_len (ns : List Nd) (pl : List Int) : (pick ns pl).length = pl.length := by rw [pick, List.length_map]
end Go.Pl
namespace Go.Proofs.Ytlmjdcbhpffanaa
open Go.Sx Go.Pl
set_option linter.unusedVariables false
set_option maxRecDepth 100000
theorem qpcS (b0 b1 b2 b3 : Bool) (c : Cir) (x : Int) (K : List It → St → Prop) (R : SV → List HO → Prop) : W (xwp Try.prog X K45 [] 60 (fxOf Try.f55 [] [⟨[0,1,0,1,1], [13,12,11,5,2], [(5,113,7)]⟩]) [] [.at []] ⟨argsS 0 [.agg [.v (.int .i64 c.fx), .v (.int .i64 c.ad), .v (.int .i64 c.ins), .x 0 [], .x 1 [], .x 2 [], .x 3 []], .v (.int .i64 x)], [.ext b0 (.s false 7 c.nodes.length (cN c.nodes)), .ext b1 (.s false 1 c.gates.length (cI c.gates)), .ext b2 (.s false 2 c.looks.length (cL c.looks)), .ext b3 (.s false 2 c.eqs.length (cK c.eqs))]⟩ K R) = W (∃ (l : List Nd), List.length c.4 = List.length l ∧ IsC c.4.length 7 (cN c.4) (cN l) ∧ List.length l ≤ 2513169434916 ∧ K [.at [0,1,0,1,1], .blk 0, .at [1,1,1]] (St.mk [(13, .v (vi64 0)), (12, .v (vi64 (↑(List.length (coneN l x)) : Int))), (11, .o 0), (5, .o 1), (2, .p 2 0)] [.rowc 3 1 (List.length (coneN l x)) (.fn (cI (coneN l x))), .rowc 113 7 0 (.lit 1 []), .cells [.v (vi64 c.1), .v (vi64 c.2), .v (vi64 c.3), .x 3 [], .x 4 [], .x 5 [], .x 6 []] 27, .ext b0 (.s false 7 c.4.length (cN c.4)), .ext b1 (.s false 1 c.5.length (cI c.5)), .ext b2 (.s false 2 c.6.length (cL c.6)), .ext b3 (.s false 2 c.7.length (cK c.7))])) := by kernel_rfl
theorem qpcR (b0 b1 b2 b3 : Bool) (c : Cir) (pl : List Int) (ls : List Nd) (m k M : Nat) (K : List It → St → Prop) (R : SV → List HO → Prop) : W (xwp Try.prog X K45 [] 60 (fxOf Try.f55 [] [⟨[0,1,0,1,1], [13,12,11,5,2], [(5,113,7)]⟩]) [] (.at [0,0,1,0,1,1] :: .rnd [0,0,1,0,1,1] M :: [.blk 0, .at [1,1,1]]) ⟨[(13, .v (.int .i64 (k : Int))), (12, .v (.int .i64 (pl.length : Int))), (11, .o 0), (5, .o 1), (2, .p 2 0)], [.rowc 3 1 pl.length (.fn (cI pl)), .rowc 113 7 m (.fn (cN ls)), .cells [.v (.int .i64 c.fx), .v (.int .i64 c.ad), .v (.int .i64 c.ins), .x 3 [], .x 4 [], .x 5 [], .x 6 []] 27, .ext b0 (.s false 7 c.nodes.length (cN c.nodes)), .ext b1 (.s false 1 c.gates.length (cI c.gates)), .ext b2 (.s false 2 c.looks.length (cL c.looks)), .ext b3 (.s false 2 c.eqs.length (cK c.eqs))]⟩ K R) = W (bif decide ((↑k : Int) < (↑(List.length pl) : Int)) then (∀ M : Mem, (0 : Int) ≤ (↑k : Int) ∧ (↑k : Int) < (↑(List.length pl) : Int)) ∧ (∀ M : Mem, k < List.length pl) ∧ (∀ M : Mem, (0 : Int) ≤ gI pl k ∧ gI pl k < (↑c.4.length : Int)) ∧ (∀ M : Mem, Int.toNat (gI pl k) < List.length c.4) ∧ (∀ M : Mem, (m + 1) * 56 ≤ 140737488355328 ∧ m + 1 ≤ 140737488355328) ∧ K [.rnd [0,0,1,0,1,1] M, .blk 0, .at [1,1,1]] (St.mk [(13, .v (vi64 (IntKind.wrap .i64 ((↑k : Int) + (1 : Int))))), (12, .v (vi64 (↑(List.length pl) : Int))), (11, .o 0), (5, .o 1), (2, .p 2 0)] [.rowc 3 1 (List.length pl) (.fn (cI pl)), .rowc 113 7 (m + 1) (.app m (.fn (cN ls)) (.lit 7 [.v (vi64 (gN c.4 (Int.toNat (gI pl k))).1), .v (vi64 (gN c.4 (Int.toNat (gI pl k))).2), .v (vi64 (gN c.4 (Int.toNat (gI pl k))).3), .v (vu64 (↑(limb (gN c.4 (Int.toNat (gI pl k))).4 0) : Int)), .v (vu64 (↑(limb (gN c.4 (Int.toNat (gI pl k))).4 1) : Int)), .v (vu64 (↑(limb (gN c.4 (Int.toNat (gI pl k))).4 2) : Int)), .v (vu64 (↑(limb (gN c.4 (Int.toNat (gI pl k))).4 3) : Int))])), .cells [.v (vi64 c.1), .v (vi64 c.2), .v (vi64 c.3), .x 3 [], .x 4 [], .x 5 [], .x 6 []] 27, .ext b0 (.s false 7 c.4.length (cN c.4)), .ext b1 (.s false 1 c.5.length (cI c.5)), .ext b2 (.s false 2 c.6.length (cL c.6)), .ext b3 (.s false 2 c.7.length (cK c.7))]) else ∃ (l : List Nd), m = List.length l ∧ IsC m 7 (cN ls) (cN l) ∧ List.length l ≤ 4000000000000 ∧ R (.o 0) [.rowc 128 3 (List.length (qsN [] l)) (.fn (cQ (qsN [] l)))]) := by kernel_rfl
theorem qpc_loop (b0 b1 b2 b3 : Bool) (c : Cir) (hc : c.ok) (x : Int) (pl : List Int) (hp : pl = coneN c.nodes x) (Q : SV → List HO → Prop) (hq : Q (.o 0) [.rowc 128 3 (coneQ c x).length (.fn (cQ (coneQ c x)))]) : ∀ (d k : Nat) (ls : List Nd), k + d = pl.length → ls = pick c.nodes (pl.take k) →
    FOk Try.prog Try.f55 Q (.rnd [0,0,1,0,1,1] (d + 1) :: [.blk 0, .at [1,1,1]]) ⟨[(13, .v (.int .i64 (k : Int))), (12, .v (.int .i64 (pl.length : Int))), (11, .o 0), (5, .o 1), (2, .p 2 0)], [.rowc 3 1 pl.length (.fn (cI pl)), .rowc 113 7 k (.fn (cN ls)), .cells [.v (.int .i64 c.fx), .v (.int .i64 c.ad), .v (.int .i64 c.ins), .x 3 [], .x 4 [], .x 5 [], .x 6 []] 27, .ext b0 (.s false 7 c.nodes.length (cN c.nodes)), .ext b1 (.s false 1 c.gates.length (cI c.gates)), .ext b2 (.s false 2 c.looks.length (cL c.looks)), .ext b3 (.s false 2 c.eqs.length (cK c.eqs))]⟩
  | 0, k, ls, hd, he => by
    have h1 := hc.n.2
    have h2 := coneN_len c.nodes x
    refine FOk.rnd (run_sound hm 60 ((qpcR b0 b1 b2 b3 c pl ls k k 0 _ _).mpr ⟨?_⟩))
    rw [cond_dec, if_neg (by omega)]
    rw [show k = pl.length by omega, List.take_length] at he
    refine ⟨ls, by rw [he, pick_len]; omega, IsC.refl _ _ _, by rw [he, pick_len, hp]; omega, ?_⟩
    rw [he, hp]
    exact hq
  | d + 1, k, ls, hd, he => by
    have hk : k < pl.length := by omega
    have h1 := hc.n.2
    have h2 := coneN_len c.nodes x
    have hpl : pl.length ≤ c.nodes.length := by rw [hp]; exact h2
    obtain ⟨g1, g2⟩ := coneN_in c.nodes x (gI pl k) (by rw [← hp]; exact gI_mem hk)
    have hlen : ls.length = k := by rw [he, pick_len, List.length_take]; omega
    refine FOk.rnd (run_sound hm 60 ((qpcR b0 b1 b2 b3 c pl ls k k (d + 1) _ _).mpr ⟨?_⟩))
    rw [cond_dec, if_pos (by omega), wrap_inc _ (by omega)]
    refine And.intro (fun _ => by omega) (And.intro (fun _ => by omega) (And.intro (fun _ => by omega) (And.intro (fun _ => by omega) (And.intro (fun _ => by omega) (?_)))))
    exact FOk.cv (qpc_loop b0 b1 b2 b3 c hc x pl hp Q hq d (k + 1) (ls ++ [gN c.nodes (gI pl k).toNat]) (by omega) (by rw [he, pick_snoc hk])) ⟨HE.refl _, ⟨rfl, rfl, rfl, cN_snoc _ _ hlen rfl⟩, HE.refl _, HE.refl _, HE.refl _, HE.refl _, HE.refl _, trivial⟩
theorem bqpc : Try.f55.body.isSome = true := by kernel_rfl
theorem nqpc (c : Cir) (x : Int) : Nat.ble [(.agg [.v (.int .i64 c.fx), .v (.int .i64 c.ad), .v (.int .i64 c.ins), .x 0 [], .x 1 [], .x 2 [], .x 3 []] : SV), .v (.int .i64 x)].length Try.f55.ntmps = true := by kernel_rfl
theorem qpc_ok (b0 b1 b2 b3 : Bool) (c : Cir) (hc : c.ok) (x : Int) (Q : SV → List HO → Prop) (hq : Q (.o 0) [.rowc 128 3 (coneQ c x).length (.fn (cQ (coneQ c x)))]) : FnOk Try.prog 55 [.agg [.v (.int .i64 c.fx), .v (.int .i64 c.ad), .v (.int .i64 c.ins), .x 0 [], .x 1 [], .x 2 [], .x 3 []], .v (.int .i64 x)] [.ext b0 (.s false 7 c.nodes.length (cN c.nodes)), .ext b1 (.s false 1 c.gates.length (cI c.gates)), .ext b2 (.s false 2 c.looks.length (cL c.looks)), .ext b3 (.s false 2 c.eqs.length (cK c.eqs))] Q := by
  refine fn_of_ok Try.func55 bqpc ?_ ?_
  · exact nqpc c x
  have h1 := hc.n.2
  refine run_sound hm 60 ((qpcS b0 b1 b2 b3 c x _ _).mpr ⟨?_⟩)
  refine ⟨c.nodes, rfl, IsC.refl _ _ _, by omega, ?_⟩
  exact FOk.loop ((coneN c.nodes x).length + 1) (by kernel_rfl) (FOk.cv (qpc_loop b0 b1 b2 b3 c hc x _ rfl Q hq (coneN c.nodes x).length 0 [] (by omega) rfl) ⟨HE.refl _, ⟨rfl, rfl, rfl, fun k hk => by omega⟩, HE.refl _, HE.refl _, HE.refl _, HE.refl _, HE.refl _, trivial⟩)
noncomputable def gqpc : List SV → List HO → Option ((SV → List HO → Prop) → Prop)
  | [.agg [.v (.int .i64 fx), .v (.int .i64 ad), .v (.int .i64 ins), .x 0 [], .x 1 [], .x 2 [], .x 3 []], .v (.int .i64 x)], [.ext _ (.s false 7 n0 c0), .ext _ (.s false 1 n1 c1), .ext _ (.s false 2 n2 c2), .ext _ (.s false 2 n3 c3)] =>
    some fun Q => lC fx ad ins n0 n1 n2 n3 c0 c1 c2 c3 fun c => Q (.o 0) [.rowc 128 3 (coneQ c x).length (.fn (cQ (coneQ c x)))]
  | _, _ => none
theorem gqpc_ok (args : List SV) (h : List HO) (tr : (SV → List HO → Prop) → Prop) (Q : SV → List HO → Prop) (hc : gqpc args h = some tr) (ht : tr Q) : FnOk Try.prog 55 args h Q := by
  unfold gqpc at hc
  split at hc
  · simp only [Option.some.injEq] at hc
    subst hc
    obtain ⟨c, rfl, rfl, rfl, ⟨rfl, e0⟩, ⟨rfl, e1⟩, ⟨rfl, e2⟩, ⟨rfl, e3⟩, hk, hq⟩ := ht.h
    exact FnOk.ac (qpc_ok _ _ _ _ c hk _ Q hq) ⟨⟨rfl, rfl, rfl, rfl, e0⟩, ⟨rfl, rfl, rfl, rfl, e1⟩, ⟨rfl, rfl, rfl, rfl, e2⟩, ⟨rfl, rfl, rfl, rfl, e3⟩, trivial⟩
  · cases hc
noncomputable def K46 : Con Try.prog := (K45).add 55 gqpc gqpc_ok
end Go.Proofs.Ytlmjdcbhpffanaa
/- Cones without rotations. -/
namespace Go.Pl
open Go.Sx
def rotB (q : Int × Int × Int) : Bool := !(q.2.2 == (0 : Int))
def flatB (c : Cir) (x : Int) : Bool := decide (0 ≤ x ∧ x < (c.nodes.length : Int)) && !(coneQ c x).any rotB
structure lQ (n : Nat) (c : Nat → Nat → Cell) (k : List (Int × Int × Int) → Prop) : Prop where
  h : ∃ l : List (Int × Int × Int), n = l.length ∧ IsC n 3 c (cQ l) ∧ l.length ≤ 4398046511104 ∧ k l
theorem coneQ_len (c : Cir) (x : Int) : (coneQ c x).length ≤ c.nodes.length := by
  have h1 := qsN_len (pick c.nodes (coneN c.nodes x)) []
  have h2 := coneN_len c.nodes x
  rw [pick_len, List.length_nil] at h1
  rw [coneQ]
  omega
end Go.Pl
namespace Go.Proofs.Ytlmjdcbhpffanaa
open Go.Sx Go.Pl
set_option linter.unusedVariables false
set_option maxRecDepth 100000
theorem iqR (b : Bool) (l : List (Int × Int × Int)) (k M : Nat) (K : List It → St → Prop) (R : SV → List HO → Prop) : W (xwp Try.prog X K46 [(111, [])] 60 (fxOf Try.f114 [] [⟨[0,1,0,1],[8,7,0,1],[]⟩]) [] (.at [0,0,1,0,1] :: .rnd [0,0,1,0,1] M :: [.blk 0, .at [1,1]]) ⟨[(8, .v (.int .i64 (k : Int))), (7, .v (.int .i64 (l.length : Int))), (0, .x 0 []), (1, .fn (.func 111) [] [])], [.ext b (.s false 3 l.length (cQ l))]⟩ K R) = W (bif decide ((↑k : Int) < (↑(List.length l) : Int)) then (∀ M : Mem, (0 : Int) ≤ (↑k : Int) ∧ (↑k : Int) < (↑(List.length l) : Int)) ∧ (∀ M : Mem, k < List.length l) ∧ bif !(gQ l k).2.2 == (0 : Int) then R (.v (vi64 (↑k : Int))) [] else K [.rnd [0,0,1,0,1] M, .blk 0, .at [1,1]] (St.mk [(8, .v (vi64 (IntKind.wrap .i64 ((↑k : Int) + (1 : Int))))), (7, .v (vi64 (↑(List.length l) : Int))), (0, .x 0 []), (1, SV.fn (Fn.func 111) [] [])] [.ext b (.s false 3 (List.length l) (cQ l))]) else R (.v (vi64 (-1))) []) := by kernel_rfl
theorem iqS (b : Bool) (l : List (Int × Int × Int)) (K : List It → St → Prop) (R : SV → List HO → Prop) : W (xwp Try.prog X K46 [(111, [])] 60 (fxOf Try.f114 [] [⟨[0,1,0,1],[8,7,0,1],[]⟩]) [] [.at []] ⟨argsS 0 [.x 0 [], .fn (.func 111) [] []], [.ext b (.s false 3 l.length (cQ l))]⟩ K R) = W (K [.at [0,1,0,1], .blk 0, .at [1,1]] (St.mk [(8, .v (vi64 0)), (7, .v (vi64 (↑(List.length l) : Int))), (0, .x 0 []), (1, SV.fn (Fn.func 111) [] [])] [.ext b (.s false 3 (List.length l) (cQ l))])) := by kernel_rfl
theorem iq_loop (b : Bool) (l : List (Int × Int × Int)) (hb : l.length ≤ 4398046511104) (Q : SV → List HO → Prop) : ∀ (d k : Nat), k + d = l.length → Q (.v (.int .i64 (idxF rotB k (l.drop k)))) [] →
    FOk Try.prog Try.f114 Q (.rnd [0,0,1,0,1] (d + 1) :: [.blk 0, .at [1,1]]) ⟨[(8, .v (.int .i64 (k : Int))), (7, .v (.int .i64 (l.length : Int))), (0, .x 0 []), (1, .fn (.func 111) [] [])], [.ext b (.s false 3 l.length (cQ l))]⟩
  | 0, k, hd, hq => by
    refine FOk.rnd (run_sound hm 60 ((iqR b l k 0 _ _).mpr ⟨?_⟩))
    rw [cond_dec, if_neg (by omega)]
    rw [show k = l.length by omega, List.drop_length] at hq
    exact hq
  | d + 1, k, hd, hq => by
    have hk : k < l.length := by omega
    refine FOk.rnd (run_sound hm 60 ((iqR b l k (d + 1) _ _).mpr ⟨?_⟩))
    rw [cond_dec, if_pos (by omega), wrap_inc _ (by omega)]
    rw [idxF_drop hk] at hq
    refine And.intro (fun _ => by omega) (And.intro (fun _ => by omega) (cond_intro (fun h => ?_) (fun h => ?_)))
    · rw [if_pos (show rotB (gQ l k) = true from h)] at hq
      exact hq
    · rw [if_neg (show ¬ rotB (gQ l k) = true by rw [rotB, h]; decide)] at hq
      exact iq_loop b l hb Q d (k + 1) (by omega) hq
theorem bIq : Try.f114.body.isSome = true := by kernel_rfl
theorem nIq : Nat.ble [SV.x 0 [], .fn (.func 111) [] []].length Try.f114.ntmps = true := by kernel_rfl
theorem iq_ok (b : Bool) (l : List (Int × Int × Int)) (hb : l.length ≤ 4398046511104) (Q : SV → List HO → Prop) (hq : Q (.v (.int .i64 (idxF rotB 0 l))) []) : FnOk Try.prog 114 [.x 0 [], .fn (.func 111) [] []] [.ext b (.s false 3 l.length (cQ l))] Q := by
  refine fn_of_ok Try.func114 bIq ?_ ?_
  · exact nIq
  refine run_sound hm 60 ((iqS b l _ _).mpr ⟨?_⟩)
  exact FOk.loop (l.length + 1) (by kernel_rfl) (iq_loop b l hb Q l.length 0 (by omega) hq)
noncomputable def gIq : List SV → List HO → Option ((SV → List HO → Prop) → Prop)
  | [.x 0 [], .fn (.func 111) [] []], [.ext _ (.s false 3 n c)] => some fun Q => lQ n c fun l => Q (.v (.int .i64 (idxF rotB 0 l))) []
  | _, _ => none
theorem gIq_ok (args : List SV) (h : List HO) (tr : (SV → List HO → Prop) → Prop) (Q : SV → List HO → Prop) (hc : gIq args h = some tr) (ht : tr Q) : FnOk Try.prog 114 args h Q := by
  unfold gIq at hc
  split at hc
  · simp only [Option.some.injEq] at hc
    subst hc
    obtain ⟨l, rfl, he, hb, hq⟩ := ht.h
    exact FnOk.ac (iq_ok _ l hb Q hq) ⟨⟨rfl, rfl, rfl, rfl, he⟩, trivial⟩
  · cases hc
noncomputable def K47 : Con Try.prog := (K46).add 114 gIq gIq_ok
end Go.Proofs.Ytlmjdcbhpffanaa
/- The checker: flat, counts. -/
namespace Go.Pl
open Go.Sx
structure lH (fx ad ins : Int) (n0 n1 n2 n3 n4 : Nat) (c0 c1 c2 c3 c4 : Nat → Nat → Cell) (k : Cir → List Int → Prop) : Prop where
  h : ∃ (c : Cir) (dg : List Int), fx = c.fx ∧ ad = c.ad ∧ ins = c.ins ∧ (n0 = c.nodes.length ∧ IsC n0 7 c0 (cN c.nodes)) ∧ (n1 = c.gates.length ∧ IsC n1 1 c1 (cI c.gates)) ∧ (n2 = c.looks.length ∧ IsC n2 2 c2 (cL c.looks)) ∧ (n3 = c.eqs.length ∧ IsC n3 2 c3 (cK c.eqs)) ∧ (n4 = dg.length ∧ IsC n4 1 c4 (cI dg)) ∧ c.ok ∧ k c dg
theorem lH_mk (c : Cir) (dg : List Int) (hc : c.ok) {k : Cir → List Int → Prop} (h : k c dg) : lH c.fx c.ad c.ins c.nodes.length c.gates.length c.looks.length c.eqs.length dg.length (cN c.nodes) (cI c.gates) (cL c.looks) (cK c.eqs) (cI dg) k :=
  ⟨⟨c, dg, rfl, rfl, rfl, ⟨rfl, IsC.refl _ _ _⟩, ⟨rfl, IsC.refl _ _ _⟩, ⟨rfl, IsC.refl _ _ _⟩, ⟨rfl, IsC.refl _ _ _⟩, ⟨rfl, IsC.refl _ _ _⟩, hc, h⟩⟩
noncomputable def ckCell (c : Cir) (dg : List Int) (j : Nat) : Cell :=
  match j with
  | 0 => .v (.int .i64 c.fx)
  | 1 => .v (.int .i64 c.ad)
  | 2 => .v (.int .i64 c.ins)
  | 3 => .s false 7 c.nodes.length (cN c.nodes)
  | 4 => .s false 1 c.gates.length (cI c.gates)
  | 5 => .s false 2 c.looks.length (cL c.looks)
  | 6 => .s false 2 c.eqs.length (cK c.eqs)
  | 7 => .s false 1 dg.length (cI dg)
  | _ => .v undef
def cntOk (c : Cir) : Prop := (0 ≤ c.fx ∧ c.fx ≤ 8) ∧ (0 ≤ c.ad ∧ c.ad ≤ 8) ∧ (0 ≤ c.ins ∧ c.ins ≤ 8) ∧ 0 < c.ad ∧ c.gates.length ≤ 16 ∧ c.looks.length ≤ 4 ∧ c.eqs.length ≤ 8
instance (c : Cir) : Decidable (cntOk c) := by unfold cntOk; exact inferInstance
def cntB (c : Cir) : Bool := decide (cntOk c)
end Go.Pl
namespace Go.Proofs.Ytlmjdcbhpffanaa
open Go.Sx Go.Pl
set_option linter.unusedVariables false
set_option maxRecDepth 100000
theorem pfS (b0 b1 b2 b3 b4 : Bool) (c : Cir) (dg : List Int) (x : Int) (K : List It → St → Prop) (R : SV → List HO → Prop) : W (xwp Try.prog X K47 [(81, []), (110, [])] 60 (fxOf Try.f103 [] []) [] [.at []] ⟨argsS 0 [.agg [.v (.int .i64 c.fx), .v (.int .i64 c.ad), .v (.int .i64 c.ins), .x 0 [], .x 1 [], .x 2 [], .x 3 [], .x 4 []], .v (.int .i64 x)], [.ext b0 (.s false 7 c.nodes.length (cN c.nodes)), .ext b1 (.s false 1 c.gates.length (cI c.gates)), .ext b2 (.s false 2 c.looks.length (cL c.looks)), .ext b3 (.s false 2 c.eqs.length (cK c.eqs)), .ext b4 (.s false 1 dg.length (cI dg))]⟩ K R) = W (bif decide ((0 : Int) ≤ x) then bif decide (x < (↑c.4.length : Int)) then lC c.1 c.2 c.3 c.4.length c.5.length c.6.length c.7.length (cN c.4) (cI c.5) (cL c.6) (cK c.7) fun (c : Cir) => lQ (List.length (coneQ c x)) (cQ (coneQ c x)) fun (l : List (Int × Int × Int)) => R (.v (.bool !decide ((0 : Int) ≤ idxF rotB 0 l))) [] else R (.v (.bool false)) [] else R (.v (.bool false)) []) := by kernel_rfl
theorem ctS (b0 b1 b2 b3 b4 : Bool) (c : Cir) (dg : List Int) (K : List It → St → Prop) (R : SV → List HO → Prop) : W (xwp Try.prog X K47 [] 60 (fxOf Try.f78 [([0,1,0,1], 4)] []) [] [.at []] ⟨argsS 0 [.agg [.v (.int .i64 c.fx), .v (.int .i64 c.ad), .v (.int .i64 c.ins), .x 0 [], .x 1 [], .x 2 [], .x 3 [], .x 4 []]], [.ext b0 (.s false 7 c.nodes.length (cN c.nodes)), .ext b1 (.s false 1 c.gates.length (cI c.gates)), .ext b2 (.s false 2 c.looks.length (cL c.looks)), .ext b3 (.s false 2 c.eqs.length (cK c.eqs)), .ext b4 (.s false 1 dg.length (cI dg))]⟩ K R) = W ((∀ M : Mem, (0 : Int) ≤ (0 : Int) ∧ (0 : Int) < (3 : Int)) ∧ bif decide (c.1 < (0 : Int)) then R (.v (.bool false)) [] else bif decide ((8 : Int) < c.1) then R (.v (.bool false)) [] else (∀ M : Mem, (0 : Int) ≤ (1 : Int) ∧ (1 : Int) < (3 : Int)) ∧ bif decide (c.2 < (0 : Int)) then R (.v (.bool false)) [] else bif decide ((8 : Int) < c.2) then R (.v (.bool false)) [] else (∀ M : Mem, (0 : Int) ≤ (2 : Int) ∧ (2 : Int) < (3 : Int)) ∧ bif decide (c.3 < (0 : Int)) then R (.v (.bool false)) [] else bif decide ((8 : Int) < c.3) then R (.v (.bool false)) [] else bif decide ((0 : Int) < c.2) then bif decide ((↑c.5.length : Int) ≤ (16 : Int)) then bif decide ((↑c.6.length : Int) ≤ (4 : Int)) then R (.v (.bool (decide ((↑c.7.length : Int) ≤ (8 : Int))))) [] else R (.v (.bool false)) [] else R (.v (.bool false)) [] else R (.v (.bool false)) []) := by kernel_rfl
theorem bPf : Try.f103.body.isSome = true := by kernel_rfl
theorem nPf (c : Cir) (x : Int) : Nat.ble [(.agg [.v (.int .i64 c.fx), .v (.int .i64 c.ad), .v (.int .i64 c.ins), .x 0 [], .x 1 [], .x 2 [], .x 3 [], .x 4 []] : SV), .v (.int .i64 x)].length Try.f103.ntmps = true := by kernel_rfl
theorem pf_ok (b0 b1 b2 b3 b4 : Bool) (c : Cir) (dg : List Int) (hc : c.ok) (x : Int) (Q : SV → List HO → Prop) (hq : Q (.v (.bool (flatB c x))) []) : FnOk Try.prog 103 [.agg [.v (.int .i64 c.fx), .v (.int .i64 c.ad), .v (.int .i64 c.ins), .x 0 [], .x 1 [], .x 2 [], .x 3 [], .x 4 []], .v (.int .i64 x)] [.ext b0 (.s false 7 c.nodes.length (cN c.nodes)), .ext b1 (.s false 1 c.gates.length (cI c.gates)), .ext b2 (.s false 2 c.looks.length (cL c.looks)), .ext b3 (.s false 2 c.eqs.length (cK c.eqs)), .ext b4 (.s false 1 dg.length (cI dg))] Q := by
  refine fn_of_ok Try.func103 bPf ?_ ?_
  · exact nPf c x
  have h1 := hc.n.2
  have h2 := coneQ_len c x
  refine run_sound hm 60 ((pfS b0 b1 b2 b3 b4 c dg x _ _).mpr ⟨?_⟩)
  simp only [cond_dec]
  refine ite_intro (fun h => ite_intro (fun h3 => ?_) (fun h3 => ?_)) (fun h => ?_)
  · refine lC_mk c hc ⟨⟨_, rfl, IsC.refl _ _ _, by omega, ?_⟩⟩
    rw [flatB, decide_eq_true ⟨h, h3⟩, Bool.true_and] at hq
    rw [idxF_any]
    exact hq
  · rw [flatB, decide_eq_false (fun hh => h3 hh.2)] at hq
    exact hq
  · rw [flatB, decide_eq_false (fun hh => h hh.1)] at hq
    exact hq
noncomputable def gPf : List SV → List HO → Option ((SV → List HO → Prop) → Prop)
  | [.agg [.v (.int .i64 fx), .v (.int .i64 ad), .v (.int .i64 ins), .x 0 [], .x 1 [], .x 2 [], .x 3 [], .x 4 []], .v (.int .i64 x)], [.ext _ (.s false 7 n0 c0), .ext _ (.s false 1 n1 c1), .ext _ (.s false 2 n2 c2), .ext _ (.s false 2 n3 c3), .ext _ (.s false 1 n4 c4)] => some fun Q => lH fx ad ins n0 n1 n2 n3 n4 c0 c1 c2 c3 c4 fun c dg => Q (.v (.bool (flatB c x))) []
  | _, _ => none
theorem gPf_ok (args : List SV) (h : List HO) (tr : (SV → List HO → Prop) → Prop) (Q : SV → List HO → Prop) (hc : gPf args h = some tr) (ht : tr Q) : FnOk Try.prog 103 args h Q := by
  unfold gPf at hc
  split at hc
  · simp only [Option.some.injEq] at hc
    subst hc
    obtain ⟨c, dg, rfl, rfl, rfl, ⟨rfl, e0⟩, ⟨rfl, e1⟩, ⟨rfl, e2⟩, ⟨rfl, e3⟩, ⟨rfl, e4⟩, hk, hq⟩ := ht.h
    exact FnOk.ac (pf_ok _ _ _ _ _ c dg hk _ Q hq) ⟨⟨rfl, rfl, rfl, rfl, e0⟩, ⟨rfl, rfl, rfl, rfl, e1⟩, ⟨rfl, rfl, rfl, rfl, e2⟩, ⟨rfl, rfl, rfl, rfl, e3⟩, ⟨rfl, rfl, rfl, rfl, e4⟩, trivial⟩
  · cases hc

theorem bCt' : Try.f78.body.isSome = true := by kernel_rfl
theorem nCt' (c : Cir) : Nat.ble [(.agg [.v (.int .i64 c.fx), .v (.int .i64 c.ad), .v (.int .i64 c.ins), .x 0 [], .x 1 [], .x 2 [], .x 3 [], .x 4 []] : SV)].length Try.f78.ntmps = true := by kernel_rfl
theorem ct_ok (b0 b1 b2 b3 b4 : Bool) (c : Cir) (dg : List Int) (hc : c.ok) (Q : SV → List HO → Prop) (hq : Q (.v (.bool (cntB c))) []) : FnOk Try.prog 78 [.agg [.v (.int .i64 c.fx), .v (.int .i64 c.ad), .v (.int .i64 c.ins), .x 0 [], .x 1 [], .x 2 [], .x 3 [], .x 4 []]] [.ext b0 (.s false 7 c.nodes.length (cN c.nodes)), .ext b1 (.s false 1 c.gates.length (cI c.gates)), .ext b2 (.s false 2 c.looks.length (cL c.looks)), .ext b3 (.s false 2 c.eqs.length (cK c.eqs)), .ext b4 (.s false 1 dg.length (cI dg))] Q := by
  refine fn_of_ok Try.func78 bCt' ?_ ?_
  · exact nCt' c
  refine run_sound hm 60 ((ctS b0 b1 b2 b3 b4 c dg _ _).mpr ⟨?_⟩)
  have yes : cntOk c → Q (.v (.bool true)) [] := fun h => by rw [cntB, decide_eq_true h] at hq; exact hq
  have no : ¬ cntOk c → Q (.v (.bool false)) [] := fun h => by rw [cntB, decide_eq_false h] at hq; exact hq
  unfold cntOk at yes no
  simp only [cond_dec]
  clear hc hq
  repeat' (first | refine And.intro (fun _ => by omega) ?_ | refine ite_intro (fun _ => ?_) (fun _ => ?_))
  all_goals first
    | (refine no (fun h => ?_); omega)
    | (by_cases hh : (c.eqs.length : Int) ≤ 8
       · rw [decide_eq_true hh]; refine yes ?_; omega
       · rw [decide_eq_false hh]; refine no (fun h => ?_); omega)
noncomputable def gCt : List SV → List HO → Option ((SV → List HO → Prop) → Prop)
  | [.agg [.v (.int .i64 fx), .v (.int .i64 ad), .v (.int .i64 ins), .x 0 [], .x 1 [], .x 2 [], .x 3 [], .x 4 []]], [.ext _ (.s false 7 n0 c0), .ext _ (.s false 1 n1 c1), .ext _ (.s false 2 n2 c2), .ext _ (.s false 2 n3 c3), .ext _ (.s false 1 n4 c4)] => some fun Q => lH fx ad ins n0 n1 n2 n3 n4 c0 c1 c2 c3 c4 fun c dg => Q (.v (.bool (cntB c))) []
  | _, _ => none
theorem gCt_ok (args : List SV) (h : List HO) (tr : (SV → List HO → Prop) → Prop) (Q : SV → List HO → Prop) (hc : gCt args h = some tr) (ht : tr Q) : FnOk Try.prog 78 args h Q := by
  unfold gCt at hc
  split at hc
  · simp only [Option.some.injEq] at hc
    subst hc
    obtain ⟨c, dg, rfl, rfl, rfl, ⟨rfl, e0⟩, ⟨rfl, e1⟩, ⟨rfl, e2⟩, ⟨rfl, e3⟩, ⟨rfl, e4⟩, hk, hq⟩ := ht.h
    exact FnOk.ac (ct_ok _ _ _ _ _ c dg hk Q hq) ⟨⟨rfl, rfl, rfl, rfl, e0⟩, ⟨rfl, rfl, rfl, rfl, e1⟩, ⟨rfl, rfl, rfl, rfl, e2⟩, ⟨rfl, rfl, rfl, rfl, e3⟩, ⟨rfl, rfl, rfl, rfl, e4⟩, trivial⟩
  · cases hc

noncomputable def K48 : Con Try.prog := (K47.add 103 gPf gPf_ok).add 78 gCt gCt_ok
end Go.Proofs.Ytlmjdcbhpffanaa
/- The checker: the greatest degree; the first place that is wrong. -/
namespace Go.Pl
open Go.Sx
def gtN (dg l : List Int) : Int := l.foldl (fun m g => if m < gI dg g.toNat then gI dg g.toNat else m) 0
structure lG (dn n : Nat) (c : Nat → Nat → Cell) (k : List Int → Prop) : Prop where
  h : ∃ l : List Int, n = l.length ∧ IsC n 1 c (cI l) ∧ l.length ≤ 17592186043904 ∧ (∀ g ∈ l, 0 ≤ g ∧ g < (dn : Int)) ∧ k l
structure lKc (ck : Nat → Nat → Cell) (k : Cir → List Int → Prop) : Prop where
  h : ∃ (c : Cir) (dg : List Int), IsC 1 8 ck (fun _ j => ckCell c dg j) ∧ c.ok ∧ k c dg
def placeB (c : Cir) (x : Int) : Bool := decide (0 ≤ x ∧ x < (c.nodes.length : Int))
theorem idxF_dropI {p : Int → Bool} {l : List Int} {k : Nat} (h : k < l.length) : idxF p k (l.drop k) = if p (gI l k) then (k : Int) else idxF p (k + 1) (l.drop (k + 1)) := by
  rw [List.drop_eq_getElem_cons h, idxF, gI, List.getD_eq_getElem?_getD, List.getElem?_eq_getElem h]; rfl
theorem gtN_snoc {dg l : List Int} {k : Nat} (h : k < l.length) : gtN dg (l.take (k + 1)) = if gtN dg (l.take k) < gI dg (gI l k).toNat then gI dg (gI l k).toNat else gtN dg (l.take k) := by
  rw [take_gI h, gtN, List.foldl_append]; rfl
end Go.Pl
namespace Go.Proofs.Ytlmjdcbhpffanaa
open Go.Sx Go.Pl
set_option linter.unusedVariables false
set_option maxRecDepth 100000
theorem gtS (b0 b1 b2 b3 b4 : Bool) (c : Cir) (dg : List Int) (b5 : Bool) (l : List Int) (K : List It → St → Prop) (R : SV → List HO → Prop) : W (xwp Try.prog X K48 [] 60 (fxOf Try.f104 [] [⟨[0,1,0,1,1], [10,9,8,5,2], []⟩]) [] [.at []] ⟨argsS 0 [.agg [.v (.int .i64 c.fx), .v (.int .i64 c.ad), .v (.int .i64 c.ins), .x 0 [], .x 1 [], .x 2 [], .x 3 [], .x 4 []], .x 5 []], [.ext b0 (.s false 7 c.nodes.length (cN c.nodes)), .ext b1 (.s false 1 c.gates.length (cI c.gates)), .ext b2 (.s false 2 c.looks.length (cL c.looks)), .ext b3 (.s false 2 c.eqs.length (cK c.eqs)), .ext b4 (.s false 1 dg.length (cI dg)), .ext b5 (.s false 1 l.length (cI l))]⟩ K R) = W (K [.at [0,1,0,1,1], .blk 0, .at [1,1,1]] (St.mk [(10, .v (vi64 0)), (9, .v (vi64 (↑(List.length l) : Int))), (8, .x 0 []), (5, .v (vi64 0)), (2, .p 1 0)] [.ext b5 (.s false 1 (List.length l) (cI l)), .cells [.v (vi64 c.1), .v (vi64 c.2), .v (vi64 c.3), .x 2 [], .x 3 [], .x 4 [], .x 5 [], .x 6 []] 160, .ext b0 (.s false 7 c.4.length (cN c.4)), .ext b1 (.s false 1 c.5.length (cI c.5)), .ext b2 (.s false 2 c.6.length (cL c.6)), .ext b3 (.s false 2 c.7.length (cK c.7)), .ext b4 (.s false 1 (List.length dg) (cI dg))])) := by kernel_rfl
theorem gtR (b0 b1 b2 b3 b4 : Bool) (c : Cir) (dg : List Int) (b5 : Bool) (l : List Int) (m : Int) (k M : Nat) (K : List It → St → Prop) (R : SV → List HO → Prop) : W (xwp Try.prog X K48 [] 60 (fxOf Try.f104 [] [⟨[0,1,0,1,1], [10,9,8,5,2], []⟩]) [] (.at [0,0,1,0,1,1] :: .rnd [0,0,1,0,1,1] M :: [.blk 0, .at [1,1,1]]) ⟨[(10, .v (.int .i64 (k : Int))), (9, .v (.int .i64 (l.length : Int))), (8, .x 0 []), (5, .v (.int .i64 m)), (2, .p 1 0)], [.ext b5 (.s false 1 l.length (cI l)), .cells [.v (.int .i64 c.fx), .v (.int .i64 c.ad), .v (.int .i64 c.ins), .x 2 [], .x 3 [], .x 4 [], .x 5 [], .x 6 []] 160, .ext b0 (.s false 7 c.nodes.length (cN c.nodes)), .ext b1 (.s false 1 c.gates.length (cI c.gates)), .ext b2 (.s false 2 c.looks.length (cL c.looks)), .ext b3 (.s false 2 c.eqs.length (cK c.eqs)), .ext b4 (.s false 1 dg.length (cI dg))]⟩ K R) = W (bif decide ((↑k : Int) < (↑(List.length l) : Int)) then (∀ M : Mem, (0 : Int) ≤ (↑k : Int) ∧ (↑k : Int) < (↑(List.length l) : Int)) ∧ (∀ M : Mem, k < List.length l) ∧ (∀ M : Mem, (0 : Int) ≤ gI l k ∧ gI l k < (↑(List.length dg) : Int)) ∧ (∀ M : Mem, Int.toNat (gI l k) < List.length dg) ∧ K [.rnd [0,0,1,0,1,1] M, .blk 0, .at [1,1,1]] (St.mk [(10, .v (vi64 (IntKind.wrap .i64 ((↑k : Int) + (1 : Int))))), (9, .v (vi64 (↑(List.length l) : Int))), (8, .x 0 []), (5, .v (vi64 (if m < gI dg (Int.toNat (gI l k)) then gI dg (Int.toNat (gI l k)) else m))), (2, .p 1 0)] [.ext b5 (.s false 1 (List.length l) (cI l)), .cells [.v (vi64 c.1), .v (vi64 c.2), .v (vi64 c.3), .x 2 [], .x 3 [], .x 4 [], .x 5 [], .x 6 []] 160, .ext b0 (.s false 7 c.4.length (cN c.4)), .ext b1 (.s false 1 c.5.length (cI c.5)), .ext b2 (.s false 2 c.6.length (cL c.6)), .ext b3 (.s false 2 c.7.length (cK c.7)), .ext b4 (.s false 1 (List.length dg) (cI dg))]) else R (.v (vi64 m)) []) := by kernel_rfl
theorem ijS (b : Bool) (l : List Int) (c : Cir) (dg : List Int) (K : List It → St → Prop) (R : SV → List HO → Prop) : W (xwp Try.prog X K48 [(80, []), (81, [])] 60 (fxOf Try.f100 [] [⟨[0,1,0,1],[8,7,0,1],[]⟩]) [] [.at []] ⟨argsS 0 [.x 0 [], .fn (.func 80) [] [.x 1 []]], [.ext b (.s false 1 l.length (cI l)), .ext true (.s true 8 1 (fun _ j => ckCell c dg j))]⟩ K R) = W (K [.at [0,1,0,1], .blk 0, .at [1,1]] (St.mk [(8, .v (vi64 0)), (7, .v (vi64 (↑(List.length l) : Int))), (0, .x 0 []), (1, SV.fn (Fn.func 80) [] [.x 1 []])] [.ext b (.s false 1 (List.length l) (cI l)), .ext true (.s true 8 1 fun (x j : Nat) => ckCell c dg j)])) := by kernel_rfl
theorem ijR (b : Bool) (l : List Int) (c : Cir) (dg : List Int) (k M : Nat) (K : List It → St → Prop) (R : SV → List HO → Prop) : W (xwp Try.prog X K48 [(80, []), (81, [])] 60 (fxOf Try.f100 [] [⟨[0,1,0,1],[8,7,0,1],[]⟩]) [] (.at [0,0,1,0,1] :: .rnd [0,0,1,0,1] M :: [.blk 0, .at [1,1]]) ⟨[(8, .v (.int .i64 (k : Int))), (7, .v (.int .i64 (l.length : Int))), (0, .x 0 []), (1, .fn (.func 80) [] [.x 1 []])], [.ext b (.s false 1 l.length (cI l)), .ext true (.s true 8 1 (fun _ j => ckCell c dg j))]⟩ K R) = W (bif decide ((↑k : Int) < (↑(List.length l) : Int)) then (∀ M : Mem, (0 : Int) ≤ (↑k : Int) ∧ (↑k : Int) < (↑(List.length l) : Int)) ∧ (∀ M : Mem, k < List.length l) ∧ (∀ M : Mem, 0 < 1) ∧ (∀ M : Mem, 0 < 1) ∧ (∀ M : Mem, 0 < 1) ∧ (∀ M : Mem, 0 < 1) ∧ (∀ M : Mem, 0 < 1) ∧ (∀ M : Mem, 0 < 1) ∧ bif decide ((0 : Int) ≤ gI l k) then bif !decide (gI l k < (↑c.4.length : Int)) then R (.v (vi64 (↑k : Int))) [] else K [.rnd [0,0,1,0,1] M, .blk 0, .at [1,1]] (St.mk [(8, .v (vi64 (IntKind.wrap .i64 ((↑k : Int) + (1 : Int))))), (7, .v (vi64 (↑(List.length l) : Int))), (0, .x 0 []), (1, SV.fn (Fn.func 80) [] [.x 1 []])] [.ext b (.s false 1 (List.length l) (cI l)), .ext true (.s true 8 1 fun (x j : Nat) => ckCell c dg j)]) else R (.v (vi64 (↑k : Int))) [] else R (.v (vi64 (-1))) []) := by kernel_rfl
theorem ilS (b : Bool) (l : List Int) (c : Cir) (dg : List Int) (K : List It → St → Prop) (R : SV → List HO → Prop) : W (xwp Try.prog X K48 [(102, [])] 60 (fxOf Try.f100 [] [⟨[0,1,0,1],[8,7,0,1],[]⟩]) [] [.at []] ⟨argsS 0 [.x 0 [], .fn (.func 102) [] [.x 1 []]], [.ext b (.s false 1 l.length (cI l)), .ext true (.s true 8 1 (fun _ j => ckCell c dg j))]⟩ K R) = W (K [.at [0,1,0,1], .blk 0, .at [1,1]] (St.mk [(8, .v (vi64 0)), (7, .v (vi64 (↑(List.length l) : Int))), (0, .x 0 []), (1, SV.fn (Fn.func 102) [] [.x 1 []])] [.ext b (.s false 1 (List.length l) (cI l)), .ext true (.s true 8 1 fun (x j : Nat) => ckCell c dg j)])) := by kernel_rfl
theorem ilR (b : Bool) (l : List Int) (c : Cir) (dg : List Int) (k M : Nat) (K : List It → St → Prop) (R : SV → List HO → Prop) : W (xwp Try.prog X K48 [(102, [])] 60 (fxOf Try.f100 [] [⟨[0,1,0,1],[8,7,0,1],[]⟩]) [] (.at [0,0,1,0,1] :: .rnd [0,0,1,0,1] M :: [.blk 0, .at [1,1]]) ⟨[(8, .v (.int .i64 (k : Int))), (7, .v (.int .i64 (l.length : Int))), (0, .x 0 []), (1, .fn (.func 102) [] [.x 1 []])], [.ext b (.s false 1 l.length (cI l)), .ext true (.s true 8 1 (fun _ j => ckCell c dg j))]⟩ K R) = W (bif decide ((↑k : Int) < (↑(List.length l) : Int)) then (∀ M : Mem, (0 : Int) ≤ (↑k : Int) ∧ (↑k : Int) < (↑(List.length l) : Int)) ∧ (∀ M : Mem, k < List.length l) ∧ (∀ M : Mem, 0 < 1) ∧ (∀ M : Mem, 0 < 1) ∧ (∀ M : Mem, 0 < 1) ∧ (∀ M : Mem, 0 < 1) ∧ (∀ M : Mem, 0 < 1) ∧ (∀ M : Mem, 0 < 1) ∧ lH c.1 c.2 c.3 c.4.length c.5.length c.6.length c.7.length (List.length dg) (cN c.4) (cI c.5) (cL c.6) (cK c.7) (cI dg) fun (c_1 : Cir) (dg_1 : List Int) => bif !flatB c_1 (gI l k) then R (.v (vi64 (↑k : Int))) [] else K [.rnd [0,0,1,0,1] M, .blk 0, .at [1,1]] (St.mk [(8, .v (vi64 (IntKind.wrap .i64 ((↑k : Int) + (1 : Int))))), (7, .v (vi64 (↑(List.length l) : Int))), (0, .x 0 []), (1, SV.fn (Fn.func 102) [] [.x 1 []])] [.ext b (.s false 1 (List.length l) (cI l)), .ext true (.s true 8 1 fun (x j : Nat) => ckCell c dg j)]) else R (.v (vi64 (-1))) []) := by kernel_rfl
theorem gt_loop (b0 b1 b2 b3 b4 : Bool) (c : Cir) (dg : List Int) (b5 : Bool) (l : List Int) (hl : l.length ≤ 17592186043904) (hg : ∀ g ∈ l, 0 ≤ g ∧ g < (dg.length : Int)) (Q : SV → List HO → Prop) (hq : Q (.v (.int .i64 (gtN dg l))) []) : ∀ (d k : Nat) (m : Int), k + d = l.length → m = gtN dg (l.take k) →
    FOk Try.prog Try.f104 Q (.rnd [0,0,1,0,1,1] (d + 1) :: [.blk 0, .at [1,1,1]]) ⟨[(10, .v (.int .i64 (k : Int))), (9, .v (.int .i64 (l.length : Int))), (8, .x 0 []), (5, .v (.int .i64 m)), (2, .p 1 0)], [.ext b5 (.s false 1 l.length (cI l)), .cells [.v (.int .i64 c.fx), .v (.int .i64 c.ad), .v (.int .i64 c.ins), .x 2 [], .x 3 [], .x 4 [], .x 5 [], .x 6 []] 160, .ext b0 (.s false 7 c.nodes.length (cN c.nodes)), .ext b1 (.s false 1 c.gates.length (cI c.gates)), .ext b2 (.s false 2 c.looks.length (cL c.looks)), .ext b3 (.s false 2 c.eqs.length (cK c.eqs)), .ext b4 (.s false 1 dg.length (cI dg))]⟩
  | 0, k, m, hd, he => by
    refine FOk.rnd (run_sound hm 60 ((gtR b0 b1 b2 b3 b4 c dg b5 l m k 0 _ _).mpr ⟨?_⟩))
    rw [cond_dec, if_neg (by omega)]
    rw [show k = l.length by omega, List.take_length] at he
    rw [he]
    exact hq
  | d + 1, k, m, hd, he => by
    have hk : k < l.length := by omega
    obtain ⟨h1, h2⟩ := hg _ (gI_mem hk)
    refine FOk.rnd (run_sound hm 60 ((gtR b0 b1 b2 b3 b4 c dg b5 l m k (d + 1) _ _).mpr ⟨?_⟩))
    rw [cond_dec, if_pos (by omega), wrap_inc _ (by omega)]
    refine And.intro (fun _ => by omega) (And.intro (fun _ => by omega) (And.intro (fun _ => by omega) (And.intro (fun _ => by omega) (?_))))
    exact gt_loop b0 b1 b2 b3 b4 c dg b5 l hl hg Q hq d (k + 1) _ (by omega) (by rw [gtN_snoc hk, he])
theorem bGt : Try.f104.body.isSome = true := by kernel_rfl
theorem nGt (c : Cir) : Nat.ble [(.agg [.v (.int .i64 c.fx), .v (.int .i64 c.ad), .v (.int .i64 c.ins), .x 0 [], .x 1 [], .x 2 [], .x 3 [], .x 4 []] : SV), .x 5 []].length Try.f104.ntmps = true := by kernel_rfl
theorem gt_ok (b0 b1 b2 b3 b4 : Bool) (c : Cir) (dg : List Int) (b5 : Bool) (l : List Int) (hl : l.length ≤ 17592186043904) (hg : ∀ g ∈ l, 0 ≤ g ∧ g < (dg.length : Int)) (Q : SV → List HO → Prop) (hq : Q (.v (.int .i64 (gtN dg l))) []) : FnOk Try.prog 104 [.agg [.v (.int .i64 c.fx), .v (.int .i64 c.ad), .v (.int .i64 c.ins), .x 0 [], .x 1 [], .x 2 [], .x 3 [], .x 4 []], .x 5 []] [.ext b0 (.s false 7 c.nodes.length (cN c.nodes)), .ext b1 (.s false 1 c.gates.length (cI c.gates)), .ext b2 (.s false 2 c.looks.length (cL c.looks)), .ext b3 (.s false 2 c.eqs.length (cK c.eqs)), .ext b4 (.s false 1 dg.length (cI dg)), .ext b5 (.s false 1 l.length (cI l))] Q := by
  refine fn_of_ok Try.func104 bGt ?_ ?_
  · exact nGt c
  refine run_sound hm 60 ((gtS b0 b1 b2 b3 b4 c dg b5 l _ _).mpr ⟨?_⟩)
  exact FOk.loop (l.length + 1) (by kernel_rfl) (gt_loop b0 b1 b2 b3 b4 c dg b5 l hl hg Q hq l.length 0 0 (by omega) rfl)
noncomputable def gGt : List SV → List HO → Option ((SV → List HO → Prop) → Prop)
  | [.agg [.v (.int .i64 fx), .v (.int .i64 ad), .v (.int .i64 ins), .x 0 [], .x 1 [], .x 2 [], .x 3 [], .x 4 []], .x 5 []], [.ext _ (.s false 7 n0 c0), .ext _ (.s false 1 n1 c1), .ext _ (.s false 2 n2 c2), .ext _ (.s false 2 n3 c3), .ext _ (.s false 1 n4 c4), .ext _ (.s false 1 n5 c5)] => some fun Q => lH fx ad ins n0 n1 n2 n3 n4 c0 c1 c2 c3 c4 fun c dg => lG dg.length n5 c5 fun l => Q (.v (.int .i64 (gtN dg l))) []
  | _, _ => none
theorem gGt_ok (args : List SV) (h : List HO) (tr : (SV → List HO → Prop) → Prop) (Q : SV → List HO → Prop) (hc : gGt args h = some tr) (ht : tr Q) : FnOk Try.prog 104 args h Q := by
  unfold gGt at hc
  split at hc
  · simp only [Option.some.injEq] at hc
    subst hc
    obtain ⟨c, dg, rfl, rfl, rfl, ⟨rfl, e0⟩, ⟨rfl, e1⟩, ⟨rfl, e2⟩, ⟨rfl, e3⟩, ⟨rfl, e4⟩, hk, hq⟩ := ht.h
    obtain ⟨l, rfl, e5, hl, hg, hq⟩ := hq.h
    exact FnOk.ac (gt_ok _ _ _ _ _ c dg _ l hl hg Q hq) ⟨⟨rfl, rfl, rfl, rfl, e0⟩, ⟨rfl, rfl, rfl, rfl, e1⟩, ⟨rfl, rfl, rfl, rfl, e2⟩, ⟨rfl, rfl, rfl, rfl, e3⟩, ⟨rfl, rfl, rfl, rfl, e4⟩, ⟨rfl, rfl, rfl, rfl, e5⟩, trivial⟩
  · cases hc
theorem b80 : Try.f100.body.isSome = true := by kernel_rfl
theorem ij_loop (b : Bool) (l : List Int) (hb : l.length ≤ 17592186043904) (c : Cir) (dg : List Int) (hc : c.ok) (Q : SV → List HO → Prop) : ∀ (d k : Nat), k + d = l.length → Q (.v (.int .i64 (idxF (fun n => !placeB c n) k (l.drop k)))) [] →
    FOk Try.prog Try.f100 Q (.rnd [0,0,1,0,1] (d + 1) :: [.blk 0, .at [1,1]]) ⟨[(8, .v (.int .i64 (k : Int))), (7, .v (.int .i64 (l.length : Int))), (0, .x 0 []), (1, .fn (.func 80) [] [.x 1 []])], [.ext b (.s false 1 l.length (cI l)), .ext true (.s true 8 1 (fun _ j => ckCell c dg j))]⟩
  | 0, k, hd, hq => by
    refine FOk.rnd (run_sound hm 60 ((ijR b l c dg k 0 _ _).mpr ⟨?_⟩))
    rw [cond_dec, if_neg (by omega)]
    rw [show k = l.length by omega, List.drop_length] at hq
    exact hq
  | d + 1, k, hd, hq => by
    have hk : k < l.length := by omega
    refine FOk.rnd (run_sound hm 60 ((ijR b l c dg k (d + 1) _ _).mpr ⟨?_⟩))
    rw [cond_dec, if_pos (by omega), wrap_inc _ (by omega)]
    rw [idxF_dropI hk] at hq
    simp only [cond_dec, cond_not]
    refine And.intro (fun _ => by omega) (And.intro (fun _ => by omega) (And.intro (fun _ => by omega) (And.intro (fun _ => by omega) (And.intro (fun _ => by omega) (And.intro (fun _ => by omega) (And.intro (fun _ => by omega) (And.intro (fun _ => by omega) (?_))))))))
    have go : placeB c (gI l k) = true → FOk Try.prog Try.f100 Q (.rnd [0,0,1,0,1] (d + 1) :: [.blk 0, .at [1,1]]) ⟨[(8, .v (.int .i64 ((k + 1 : Nat) : Int))), (7, .v (.int .i64 (l.length : Int))), (0, .x 0 []), (1, .fn (.func 80) [] [.x 1 []])], [.ext b (.s false 1 l.length (cI l)), .ext true (.s true 8 1 (fun _ j => ckCell c dg j))]⟩ := fun h => by
      rw [h] at hq
      exact ij_loop b l hb c dg hc Q d (k + 1) (by omega) hq
    have no : placeB c (gI l k) = false → Q (.v (.int .i64 (k : Int))) [] := fun h => by
      rw [h] at hq
      exact hq
    refine ite_intro (fun h => ite_intro (fun h2 => go (decide_eq_true ⟨h, h2⟩)) (fun h2 => no (decide_eq_false fun hh => h2 hh.2))) (fun h => no (decide_eq_false fun hh => h hh.1))
theorem nij : Nat.ble [SV.x 0 [], .fn (.func 80) [] [.x 1 []]].length Try.f100.ntmps = true := by kernel_rfl
theorem ij_ok (b : Bool) (l : List Int) (hb : l.length ≤ 17592186043904) (c : Cir) (dg : List Int) (hc : c.ok) (Q : SV → List HO → Prop) (hq : Q (.v (.int .i64 (idxF (fun n => !placeB c n) 0 l))) []) : FnOk Try.prog 100 [.x 0 [], .fn (.func 80) [] [.x 1 []]] [.ext b (.s false 1 l.length (cI l)), .ext true (.s true 8 1 (fun _ j => ckCell c dg j))] Q := by
  refine fn_of_ok Try.func100 b80 ?_ ?_
  · exact nij
  refine run_sound hm 60 ((ijS b l c dg _ _).mpr ⟨?_⟩)
  exact FOk.loop (l.length + 1) (by kernel_rfl) (ij_loop b l hb c dg hc Q l.length 0 (by omega) hq)
theorem il_loop (b : Bool) (l : List Int) (hb : l.length ≤ 17592186043904) (c : Cir) (dg : List Int) (hc : c.ok) (Q : SV → List HO → Prop) : ∀ (d k : Nat), k + d = l.length → Q (.v (.int .i64 (idxF (fun n => !flatB c n) k (l.drop k)))) [] →
    FOk Try.prog Try.f100 Q (.rnd [0,0,1,0,1] (d + 1) :: [.blk 0, .at [1,1]]) ⟨[(8, .v (.int .i64 (k : Int))), (7, .v (.int .i64 (l.length : Int))), (0, .x 0 []), (1, .fn (.func 102) [] [.x 1 []])], [.ext b (.s false 1 l.length (cI l)), .ext true (.s true 8 1 (fun _ j => ckCell c dg j))]⟩
  | 0, k, hd, hq => by
    refine FOk.rnd (run_sound hm 60 ((ilR b l c dg k 0 _ _).mpr ⟨?_⟩))
    rw [cond_dec, if_neg (by omega)]
    rw [show k = l.length by omega, List.drop_length] at hq
    exact hq
  | d + 1, k, hd, hq => by
    have hk : k < l.length := by omega
    refine FOk.rnd (run_sound hm 60 ((ilR b l c dg k (d + 1) _ _).mpr ⟨?_⟩))
    rw [cond_dec, if_pos (by omega), wrap_inc _ (by omega)]
    rw [idxF_dropI hk] at hq
    refine And.intro (fun _ => by omega) (And.intro (fun _ => by omega) (And.intro (fun _ => by omega) (And.intro (fun _ => by omega) (And.intro (fun _ => by omega) (And.intro (fun _ => by omega) (And.intro (fun _ => by omega) (And.intro (fun _ => by omega) (?_))))))))
    refine lH_mk c dg hc (cond_intro (fun h => ?_) (fun h => ?_))
    · rw [Bool.not_eq_true'] at h
      rw [h] at hq
      exact hq
    · rw [Bool.not_eq_false'] at h
      rw [h] at hq
      exact il_loop b l hb c dg hc Q d (k + 1) (by omega) hq
theorem nil : Nat.ble [SV.x 0 [], .fn (.func 102) [] [.x 1 []]].length Try.f100.ntmps = true := by kernel_rfl
theorem il_ok (b : Bool) (l : List Int) (hb : l.length ≤ 17592186043904) (c : Cir) (dg : List Int) (hc : c.ok) (Q : SV → List HO → Prop) (hq : Q (.v (.int .i64 (idxF (fun n => !flatB c n) 0 l))) []) : FnOk Try.prog 100 [.x 0 [], .fn (.func 102) [] [.x 1 []]] [.ext b (.s false 1 l.length (cI l)), .ext true (.s true 8 1 (fun _ j => ckCell c dg j))] Q := by
  refine fn_of_ok Try.func100 b80 ?_ ?_
  · exact nil
  refine run_sound hm 60 ((ilS b l c dg _ _).mpr ⟨?_⟩)
  exact FOk.loop (l.length + 1) (by kernel_rfl) (il_loop b l hb c dg hc Q l.length 0 (by omega) hq)
noncomputable def g80 : List SV → List HO → Option ((SV → List HO → Prop) → Prop)
  | [.x 0 [], .fn (.func 80) [] [.x 1 []]], [.ext _ (.s false 1 n c), .ext true (.s true 8 1 ck)] => some fun Q => lI n c fun l => lKc ck fun c dg => Q (.v (.int .i64 (idxF (fun n => !placeB c n) 0 l))) []
  | [.x 0 [], .fn (.func 102) [] [.x 1 []]], [.ext _ (.s false 1 n c), .ext true (.s true 8 1 ck)] => some fun Q => lI n c fun l => lKc ck fun c dg => Q (.v (.int .i64 (idxF (fun n => !flatB c n) 0 l))) []
  | _, _ => none
theorem g80_ok (args : List SV) (h : List HO) (tr : (SV → List HO → Prop) → Prop) (Q : SV → List HO → Prop) (hc : g80 args h = some tr) (ht : tr Q) : FnOk Try.prog 100 args h Q := by
  unfold g80 at hc
  split at hc
  · simp only [Option.some.injEq] at hc
    subst hc
    obtain ⟨l, rfl, he, hb, hk⟩ := ht.h
    obtain ⟨c, dg, e1, hc, hq⟩ := hk.h
    exact FnOk.ac (ij_ok _ l hb c dg hc Q hq) ⟨⟨rfl, rfl, rfl, rfl, he⟩, ⟨rfl, rfl, rfl, rfl, e1⟩, trivial⟩
  · simp only [Option.some.injEq] at hc
    subst hc
    obtain ⟨l, rfl, he, hb, hk⟩ := ht.h
    obtain ⟨c, dg, e1, hc, hq⟩ := hk.h
    exact FnOk.ac (il_ok _ l hb c dg hc Q hq) ⟨⟨rfl, rfl, rfl, rfl, he⟩, ⟨rfl, rfl, rfl, rfl, e1⟩, trivial⟩
  · cases hc
noncomputable def K49 : Con Try.prog := (K48.add 104 gGt gGt_ok).add 100 g80 g80_ok
end Go.Proofs.Ytlmjdcbhpffanaa
/- The checker: columns that may be copied; lookups. -/
namespace Go.Pl
open Go.Sx
def mostK (c : Cir) (k : Int) : Int := if k = 2 then c.fx else if k = 3 then c.ad else if k = 4 then c.ins else 0
def okK (c : Cir) (x : Int × Int) : Bool := decide ((2 ≤ x.1 ∧ x.1 ≤ 4) ∧ 0 ≤ x.2 ∧ x.2 < mostK c x.1)
def eqF (c : Cir) : List (Int × Int) → List (Int × Int) → Bool
  | seen, x :: r => okK c x && !decide (x ∈ seen) && eqF c (seen ++ [x]) r
  | _, [] => true
def prK (x : Int × Int) : List Int := [x.1, x.2]
theorem prK_inj {x y : Int × Int} : prK x = prK y ↔ x = y := by
  constructor
  · intro h
    simp only [prK, List.cons.injEq, and_true] at h
    exact Prod.ext h.1 h.2
  · intro h; rw [h]
theorem mhas_map : ∀ (l : List (Int × Int)) (x : Int × Int), mhas (l.map prK) [x.1, x.2] = decide (x ∈ l)
  | [], x => by simp [mhas]
  | y :: r, x => by
    have : decide ([x.1, x.2] = prK y) = decide (x = y) := decide_eq_decide.2 prK_inj
    rw [List.map_cons, mhas, this, mhas_map r x]
    by_cases h : x = y
    · simp [h]
    · simp [h]
theorem mput_new : ∀ (kl : List (List Int)) (x : List Int), mhas kl x = false → mput kl x = kl ++ [x]
  | [], x, _ => rfl
  | k :: r, x, h => by
    rw [mhas, Bool.or_eq_false_iff] at h
    rw [mput, h.1, cond_false, mput_new r x h.2]
    rfl
theorem m3_has (k : Int) : mhas [[2], [3], [4]] [k] = decide (2 ≤ k ∧ k ≤ 4) := by
  simp only [mhas, List.cons.injEq, and_true, Bool.or_false]
  by_cases h2 : k = 2
  · subst h2; rfl
  · by_cases h3 : k = 3
    · subst h3; rfl
    · by_cases h4 : k = 4
      · subst h4; rfl
      · rw [decide_eq_false h2, decide_eq_false h3, decide_eq_false h4, decide_eq_false (by omega)]; rfl
theorem m3_get (c : Cir) (k : Int) : mgetI [[2], [3], [4]] [c.fx, c.ad, c.ins] [k] = mostK c k := by
  simp only [mgetI, mostK, List.cons.injEq, and_true]
  by_cases h2 : k = 2
  · simp [h2]
  · by_cases h3 : k = 3
    · simp [h3]
    · by_cases h4 : k = 4
      · simp [h4]
      · simp [h2, h3, h4]
theorem drop_gK {l : List (Int × Int)} {k : Nat} (h : k < l.length) : l.drop k = gK l k :: l.drop (k + 1) := by
  rw [List.drop_eq_getElem_cons h, gK, List.getD_eq_getElem?_getD, List.getElem?_eq_getElem h]; rfl
theorem take_gK {l : List (Int × Int)} {k : Nat} (h : k < l.length) : l.take (k + 1) = l.take k ++ [gK l k] := by
  rw [List.take_add_one, List.getElem?_eq_getElem h, gK, List.getD_eq_getElem?_getD, List.getElem?_eq_getElem h]; rfl
structure lLk (n : Nat) (c : Nat → Nat → Cell) (k : List (List Int × List Int) → Prop) : Prop where
  h : ∃ l : List (List Int × List Int), n = l.length ∧ IsC n 2 c (cL l) ∧ l.length * 48 ≤ 140737488351232 ∧ (∀ x ∈ l, x.1.length * 8 ≤ 140737488351232 ∧ x.2.length * 8 ≤ 140737488351232) ∧ k l
theorem lKc_lc (c : Cir) (dg : List Int) (hc : c.ok) {k : Cir → List Int → Prop} (h : k c dg) : lKc (lc 8 [Cell.v (.int .i64 c.fx), Cell.v (.int .i64 c.ad), Cell.v (.int .i64 c.ins), Cell.s false 7 c.nodes.length (cN c.nodes), Cell.s false 1 c.gates.length (cI c.gates), Cell.s false 2 c.looks.length (cL c.looks), Cell.s false 2 c.eqs.length (cK c.eqs), Cell.s false 1 dg.length (cI dg)]) k :=
  ⟨⟨c, dg, fun k hk j hj => by
    have : k = 0 := by omega
    subst this
    match j, hj with
    | 0, _ => rfl
    | 1, _ => rfl
    | 2, _ => rfl
    | 3, _ => rfl
    | 4, _ => rfl
    | 5, _ => rfl
    | 6, _ => rfl
    | 7, _ => rfl, hc, h⟩⟩
def lookB (c : Cir) (x : List Int × List Int) : Bool := decide (1 ≤ x.1.length ∧ x.1.length ≤ 4 ∧ x.2.length = x.1.length) && !x.1.any (fun n => !flatB c n) && !x.2.any (fun n => !flatB c n)
theorem idxF_dropL {p : List Int × List Int → Bool} {l : List (List Int × List Int)} {k : Nat} (h : k < l.length) : idxF p k (l.drop k) = if p (gL l k) then (k : Int) else idxF p (k + 1) (l.drop (k + 1)) := by
  rw [List.drop_eq_getElem_cons h, idxF, gL, List.getD_eq_getElem?_getD, List.getElem?_eq_getElem h]; rfl
end Go.Pl
namespace Go.Proofs.Ytlmjdcbhpffanaa
open Go.Sx Go.Pl
set_option linter.unusedVariables false
set_option maxRecDepth 100000
theorem equS (b0 b1 b2 b3 b4 : Bool) (c : Cir) (dg : List Int) (K : List It → St → Prop) (R : SV → List HO → Prop) : W (xwp Try.prog X K49 [] 60 (fxOf Try.f85 [] [⟨[0,1,0,1,1,1], [27,26,25,4,3], []⟩]) [] [.at []] ⟨argsS 0 [.agg [.v (.int .i64 c.fx), .v (.int .i64 c.ad), .v (.int .i64 c.ins), .x 0 [], .x 1 [], .x 2 [], .x 3 [], .x 4 []]], [.ext b0 (.s false 7 c.nodes.length (cN c.nodes)), .ext b1 (.s false 1 c.gates.length (cI c.gates)), .ext b2 (.s false 2 c.looks.length (cL c.looks)), .ext b3 (.s false 2 c.eqs.length (cK c.eqs)), .ext b4 (.s false 1 dg.length (cI dg))]⟩ K R) = W (K [.at [0,1,0,1,1,1], .blk 0, .at [1,1,1,1]] (St.mk [(27, .v (vi64 0)), (26, .v (vi64 (↑c.7.length : Int))), (25, .x 0 []), (4, .m 1), (3, .m 2)] [.ext b3 (.s false 2 c.7.length (cK c.7)), .mp false [IntKind.i64] [[(2 : Int)], [(3 : Int)], [(4 : Int)]] (Mc.ints IntKind.i64 (mputG [[(2 : Int)], [(3 : Int)]] (mputG [[(2 : Int)]] (mputG [] [] [(2 : Int)] c.1) [(3 : Int)] c.2) [(4 : Int)] c.3)), .mp true [IntKind.i64, IntKind.i64] [] Mc.unit])) := by kernel_rfl
theorem equR (b : Bool) (l : List (Int × Int)) (ms : List Int) (kl : List (List Int)) (k M : Nat) (K : List It → St → Prop) (R : SV → List HO → Prop) : W (xwp Try.prog X K49 [] 60 (fxOf Try.f85 [] [⟨[0,1,0,1,1,1], [27,26,25,4,3], []⟩]) [] (.at [0,0,1,0,1,1,1] :: .rnd [0,0,1,0,1,1,1] M :: [.blk 0, .at [1,1,1,1]]) ⟨[(27, .v (.int .i64 (k : Int))), (26, .v (.int .i64 (l.length : Int))), (25, .x 0 []), (4, .m 1), (3, .m 2)], [.ext b (.s false 2 l.length (cK l)), .mp false [.i64] [[2], [3], [4]] (.ints .i64 ms), .mp true [.i64, .i64] kl .unit]⟩ K R) = W (bif decide ((↑k : Int) < (↑(List.length l) : Int)) then (∀ M : Mem, (0 : Int) ≤ (↑k : Int) ∧ (↑k : Int) < (↑(List.length l) : Int)) ∧ (∀ M : Mem, k < List.length l) ∧ (∀ M : Mem, 0 + 2 ≤ 2) ∧ (∀ M : Mem, 0 ≤ 0) ∧ bif !mhas [[(2 : Int)], [(3 : Int)], [(4 : Int)]] [(gK l k).1] then R (.v (.bool false)) [] else bif mhas kl [(gK l k).1, (gK l k).2] then R (.v (.bool false)) [] else bif decide ((gK l k).2 < (0 : Int)) then R (.v (.bool false)) [] else bif decide (mgetI [[(2 : Int)], [(3 : Int)], [(4 : Int)]] ms [(gK l k).1] ≤ (gK l k).2) then R (.v (.bool false)) [] else K [.rnd [0,0,1,0,1,1,1] M, .blk 0, .at [1,1,1,1]] (St.mk [(27, .v (vi64 (IntKind.wrap .i64 ((↑k : Int) + (1 : Int))))), (26, .v (vi64 (↑(List.length l) : Int))), (25, .x 0 []), (4, .m 1), (3, .m 2)] [.ext b (.s false 2 (List.length l) (cK l)), .mp false [IntKind.i64] [[(2 : Int)], [(3 : Int)], [(4 : Int)]] (Mc.ints IntKind.i64 ms), .mp true [IntKind.i64, IntKind.i64] (mput kl [(gK l k).1, (gK l k).2]) Mc.unit]) else R (.v (.bool true)) []) := by kernel_rfl
theorem ikS (b : Bool) (c : Cir) (dg : List Int) (l : List (List Int × List Int)) (K : List It → St → Prop) (R : SV → List HO → Prop) : W (xwp Try.prog X K49 [(83, []), (84, []), (79, [])] 60 (fxOf Try.f101 [] [⟨[0,1,0,1],[8,7,0,1],[]⟩]) [] [.at []] ⟨argsS 0 [.x 0 [], .fn (.func 83) [] [.x 1 []]], [.ext b (.s false 2 l.length (cL l)), .ext true (.s true 8 1 (fun _ j => ckCell c dg j))]⟩ K R) = W (K [.at [0,1,0,1], .blk 0, .at [1,1]] (St.mk [(8, .v (vi64 0)), (7, .v (vi64 (↑(List.length l) : Int))), (0, .x 0 []), (1, SV.fn (Fn.func 83) [] [.x 1 []])] [.ext b (.s false 2 (List.length l) (cL l)), .ext true (.s true 8 1 fun (x j : Nat) => ckCell c dg j)])) := by kernel_rfl
theorem ikR (b : Bool) (c : Cir) (dg : List Int) (l : List (List Int × List Int)) (k M : Nat) (K : List It → St → Prop) (R : SV → List HO → Prop) : W (xwp Try.prog X K49 [(83, []), (84, []), (79, [])] 60 (fxOf Try.f101 [] [⟨[0,1,0,1],[8,7,0,1],[]⟩]) [] (.at [0,0,1,0,1] :: .rnd [0,0,1,0,1] M :: [.blk 0, .at [1,1]]) ⟨[(8, .v (.int .i64 (k : Int))), (7, .v (.int .i64 (l.length : Int))), (0, .x 0 []), (1, .fn (.func 83) [] [.x 1 []])], [.ext b (.s false 2 l.length (cL l)), .ext true (.s true 8 1 (fun _ j => ckCell c dg j))]⟩ K R) = W (bif decide ((↑k : Int) < (↑(List.length l) : Int)) then (∀ M : Mem, (0 : Int) ≤ (↑k : Int) ∧ (↑k : Int) < (↑(List.length l) : Int)) ∧ (∀ M : Mem, k < List.length l) ∧ (∀ M : Mem, k < List.length l) ∧ (∀ M : Mem, k < List.length l) ∧ (∀ M : Mem, 0 < 1) ∧ (∀ M : Mem, 0 < 1) ∧ (∀ M : Mem, 0 < 1) ∧ (∀ M : Mem, 0 < 1) ∧ (∀ M : Mem, 0 < 1) ∧ (∀ M : Mem, 0 < 1) ∧ bif decide ((↑(List.length (gL l k).1) : Int) < (1 : Int)) then R (.v (vi64 (↑k : Int))) [] else bif decide ((4 : Int) < (↑(List.length (gL l k).1) : Int)) then R (.v (vi64 (↑k : Int))) [] else bif !(↑(List.length (gL l k).2) : Int) == (↑(List.length (gL l k).1) : Int) then R (.v (vi64 (↑k : Int))) [] else lI (List.length (gL l k).1) (cI (gL l k).1) fun (l_1 : List Int) => lKc (lc 8 [.v (vi64 c.1), .v (vi64 c.2), .v (vi64 c.3), .s false 7 c.4.length (cN c.4), .s false 1 c.5.length (cI c.5), .s false 2 c.6.length (cL c.6), .s false 2 c.7.length (cK c.7), .s false 1 (List.length dg) (cI dg)]) fun (c_1 : Cir) (dg_1 : List Int) => bif !decide ((0 : Int) ≤ idxF (fun (n : Int) => !flatB c_1 n) 0 l_1) then lI (List.length (gL l k).2) (cI (gL l k).2) fun (l_2 : List Int) => lKc (lc 8 [.v (vi64 c.1), .v (vi64 c.2), .v (vi64 c.3), .s false 7 c.4.length (cN c.4), .s false 1 c.5.length (cI c.5), .s false 2 c.6.length (cL c.6), .s false 2 c.7.length (cK c.7), .s false 1 (List.length dg) (cI dg)]) fun (c_2 : Cir) (dg_2 : List Int) => bif !!decide ((0 : Int) ≤ idxF (fun (n : Int) => !flatB c_2 n) 0 l_2) then R (.v (vi64 (↑k : Int))) [] else K [.rnd [0,0,1,0,1] M, .blk 0, .at [1,1]] (St.mk [(8, .v (vi64 (IntKind.wrap .i64 ((↑k : Int) + (1 : Int))))), (7, .v (vi64 (↑(List.length l) : Int))), (0, .x 0 []), (1, SV.fn (Fn.func 83) [] [.x 1 []])] [.ext b (.s false 2 (List.length l) (cL l)), .ext true (.s true 8 1 fun (x j : Nat) => ckCell c dg j)]) else R (.v (vi64 (↑k : Int))) [] else R (.v (vi64 (-1))) []) := by kernel_rfl
theorem equ_loop (b : Bool) (c : Cir) (l : List (Int × Int)) (hl : l.length ≤ 8796093022208) (ms : List Int) (hms : ms = [c.fx, c.ad, c.ins]) (Q : SV → List HO → Prop) : ∀ (d k : Nat) (kl : List (List Int)), k + d = l.length → kl = (l.take k).map prK → Q (.v (.bool (eqF c (l.take k) (l.drop k)))) [] →
    FOk Try.prog Try.f85 Q (.rnd [0,0,1,0,1,1,1] (d + 1) :: [.blk 0, .at [1,1,1,1]]) ⟨[(27, .v (.int .i64 (k : Int))), (26, .v (.int .i64 (l.length : Int))), (25, .x 0 []), (4, .m 1), (3, .m 2)], [.ext b (.s false 2 l.length (cK l)), .mp false [.i64] [[2], [3], [4]] (.ints .i64 ms), .mp true [.i64, .i64] kl .unit]⟩
  | 0, k, kl, hd, he, hq => by
    refine FOk.rnd (run_sound hm 60 ((equR b l ms kl k 0 _ _).mpr ⟨?_⟩))
    rw [cond_dec, if_neg (by omega)]
    rw [show k = l.length by omega, List.drop_length, eqF] at hq
    exact hq
  | d + 1, k, kl, hd, he, hq => by
    have hk : k < l.length := by omega
    refine FOk.rnd (run_sound hm 60 ((equR b l ms kl k (d + 1) _ _).mpr ⟨?_⟩))
    rw [cond_dec, if_pos (by omega), wrap_inc _ (by omega), m3_has, hms, m3_get, he, mhas_map]
    rw [drop_gK hk, eqF] at hq
    simp only [cond_dec, cond_not]
    refine And.intro (fun _ => by omega) (And.intro (fun _ => by omega) (And.intro (fun _ => by omega) (And.intro (fun _ => by omega) (?_))))
    have no : (okK c (gK l k) && !decide (gK l k ∈ l.take k)) = false → Q (.v (.bool false)) [] := fun h => by
      rw [h, Bool.false_and] at hq
      exact hq
    refine ite_intro (fun h1 => ite_intro (fun h2 => ?_) (fun h2 => ite_intro (fun h3 => ?_) (fun h3 => ite_intro (fun h4 => ?_) (fun h4 => ?_)))) (fun h1 => ?_)
    · exact no (by rw [decide_eq_true h2]; simp)
    · exact no (by rw [okK, decide_eq_false (by omega)]; rfl)
    · exact no (by rw [okK, decide_eq_false (by omega)]; rfl)
    · rw [okK, decide_eq_true (by omega), decide_eq_false h2, Bool.not_false, Bool.true_and, Bool.true_and, ← take_gK hk] at hq
      have h5 : mput ((l.take k).map prK) [(gK l k).1, (gK l k).2] = (l.take (k + 1)).map prK := by
        rw [mput_new _ _ (by rw [mhas_map, decide_eq_false h2]), take_gK hk, List.map_append]; rfl
      rw [h5]
      have := equ_loop b c l hl ms hms Q d (k + 1) _ (by omega) rfl hq
      rw [hms] at this
      exact this
    · exact no (by rw [okK, decide_eq_false (by omega)]; rfl)
theorem bEqu : Try.f85.body.isSome = true := by kernel_rfl
theorem nEqu (c : Cir) : Nat.ble [(.agg [.v (.int .i64 c.fx), .v (.int .i64 c.ad), .v (.int .i64 c.ins), .x 0 [], .x 1 [], .x 2 [], .x 3 [], .x 4 []] : SV)].length Try.f85.ntmps = true := by kernel_rfl
theorem equ_ok (b0 b1 b2 b3 b4 : Bool) (c : Cir) (dg : List Int) (hc : c.ok) (Q : SV → List HO → Prop) (hq : Q (.v (.bool (eqF c [] c.eqs))) []) : FnOk Try.prog 85 [.agg [.v (.int .i64 c.fx), .v (.int .i64 c.ad), .v (.int .i64 c.ins), .x 0 [], .x 1 [], .x 2 [], .x 3 [], .x 4 []]] [.ext b0 (.s false 7 c.nodes.length (cN c.nodes)), .ext b1 (.s false 1 c.gates.length (cI c.gates)), .ext b2 (.s false 2 c.looks.length (cL c.looks)), .ext b3 (.s false 2 c.eqs.length (cK c.eqs)), .ext b4 (.s false 1 dg.length (cI dg))] Q := by
  refine fn_of_ok Try.func85 bEqu ?_ ?_
  · exact nEqu c
  have h1 := hc.e.2
  refine run_sound hm 60 ((equS b0 b1 b2 b3 b4 c dg _ _).mpr ⟨?_⟩)
  exact FOk.loop (c.eqs.length + 1) (by kernel_rfl) (equ_loop b3 c c.eqs (by omega) _ rfl Q c.eqs.length 0 [] (by omega) rfl hq)
noncomputable def gEqu : List SV → List HO → Option ((SV → List HO → Prop) → Prop)
  | [.agg [.v (.int .i64 fx), .v (.int .i64 ad), .v (.int .i64 ins), .x 0 [], .x 1 [], .x 2 [], .x 3 [], .x 4 []]], [.ext _ (.s false 7 n0 c0), .ext _ (.s false 1 n1 c1), .ext _ (.s false 2 n2 c2), .ext _ (.s false 2 n3 c3), .ext _ (.s false 1 n4 c4)] => some fun Q => lH fx ad ins n0 n1 n2 n3 n4 c0 c1 c2 c3 c4 fun c dg => Q (.v (.bool (eqF c [] c.eqs))) []
  | _, _ => none
theorem gEqu_ok (args : List SV) (h : List HO) (tr : (SV → List HO → Prop) → Prop) (Q : SV → List HO → Prop) (hc : gEqu args h = some tr) (ht : tr Q) : FnOk Try.prog 85 args h Q := by
  unfold gEqu at hc
  split at hc
  · simp only [Option.some.injEq] at hc
    subst hc
    obtain ⟨c, dg, rfl, rfl, rfl, ⟨rfl, e0⟩, ⟨rfl, e1⟩, ⟨rfl, e2⟩, ⟨rfl, e3⟩, ⟨rfl, e4⟩, hk, hq⟩ := ht.h
    exact FnOk.ac (equ_ok _ _ _ _ _ c dg hk Q hq) ⟨⟨rfl, rfl, rfl, rfl, e0⟩, ⟨rfl, rfl, rfl, rfl, e1⟩, ⟨rfl, rfl, rfl, rfl, e2⟩, ⟨rfl, rfl, rfl, rfl, e3⟩, ⟨rfl, rfl, rfl, rfl, e4⟩, trivial⟩
  · cases hc

theorem ik_loop (b : Bool) (c : Cir) (dg : List Int) (l : List (List Int × List Int)) (hb : l.length * 48 ≤ 140737488351232) (hl : ∀ x ∈ l, x.1.length * 8 ≤ 140737488351232 ∧ x.2.length * 8 ≤ 140737488351232) (hc : c.ok) (Q : SV → List HO → Prop) : ∀ (d k : Nat), k + d = l.length → Q (.v (.int .i64 (idxF (fun x => !lookB c x) k (l.drop k)))) [] →
    FOk Try.prog Try.f101 Q (.rnd [0,0,1,0,1] (d + 1) :: [.blk 0, .at [1,1]]) ⟨[(8, .v (.int .i64 (k : Int))), (7, .v (.int .i64 (l.length : Int))), (0, .x 0 []), (1, .fn (.func 83) [] [.x 1 []])], [.ext b (.s false 2 l.length (cL l)), .ext true (.s true 8 1 (fun _ j => ckCell c dg j))]⟩
  | 0, k, hd, hq => by
    refine FOk.rnd (run_sound hm 60 ((ikR b c dg l k 0 _ _).mpr ⟨?_⟩))
    rw [cond_dec, if_neg (by omega)]
    rw [show k = l.length by omega, List.drop_length] at hq
    exact hq
  | d + 1, k, hd, hq => by
    have hk : k < l.length := by omega
    obtain ⟨l1, l2⟩ := hl _ (gL_mem hk)
    refine FOk.rnd (run_sound hm 60 ((ikR b c dg l k (d + 1) _ _).mpr ⟨?_⟩))
    rw [cond_dec, if_pos (by omega), wrap_inc _ (by omega)]
    rw [idxF_dropL hk] at hq
    have go : lookB c (gL l k) = true → FOk Try.prog Try.f101 Q (.rnd [0,0,1,0,1] (d + 1) :: [.blk 0, .at [1,1]]) ⟨[(8, .v (.int .i64 ((k + 1 : Nat) : Int))), (7, .v (.int .i64 (l.length : Int))), (0, .x 0 []), (1, .fn (.func 83) [] [.x 1 []])], [.ext b (.s false 2 l.length (cL l)), .ext true (.s true 8 1 (fun _ j => ckCell c dg j))]⟩ := fun h => by
      rw [h] at hq
      exact ik_loop b c dg l hb hl hc Q d (k + 1) (by omega) hq
    have no : lookB c (gL l k) = false → Q (.v (.int .i64 (k : Int))) [] := fun h => by
      rw [h] at hq
      exact hq
    simp only [cond_dec, cond_not, cond_beq]
    refine And.intro (fun _ => by omega) (And.intro (fun _ => by omega) (And.intro (fun _ => by omega) (And.intro (fun _ => by omega) (And.intro (fun _ => by omega) (And.intro (fun _ => by omega) (And.intro (fun _ => by omega) (And.intro (fun _ => by omega) (And.intro (fun _ => by omega) (And.intro (fun _ => by omega) (?_))))))))))
    refine ite_intro (fun h => no ?_) (fun h1 => ite_intro (fun h => no ?_) (fun h2 => ite_intro (fun h3 => ?_) (fun h3 => no ?_)))
    · rw [lookB, decide_eq_false (by omega)]; rfl
    · rw [lookB, decide_eq_false (by omega)]; rfl
    · refine ⟨⟨_, rfl, IsC.refl _ _ _, by omega, lKc_lc c dg hc (ite_intro (fun h4 => no ?_) (fun h4 => ⟨⟨_, rfl, IsC.refl _ _ _, by omega, lKc_lc c dg hc (ite_intro (fun h5 => no ?_) (fun h5 => go ?_))⟩⟩))⟩⟩
      · rw [lookB, ← idxF_any (fun n => !flatB c n) (gL l k).1 0, decide_eq_true h4]; simp
      · rw [lookB, ← idxF_any (fun n => !flatB c n) (gL l k).2 0, decide_eq_true h5]; simp
      · rw [lookB, ← idxF_any (fun n => !flatB c n) (gL l k).1 0, ← idxF_any (fun n => !flatB c n) (gL l k).2 0, decide_eq_false h4, decide_eq_false h5, decide_eq_true (by omega)]; rfl
    · rw [lookB, decide_eq_false (by omega)]; rfl
theorem b81 : Try.f101.body.isSome = true := by kernel_rfl
theorem n81 : Nat.ble [SV.x 0 [], .fn (.func 83) [] [.x 1 []]].length Try.f101.ntmps = true := by kernel_rfl
theorem ik_ok (b : Bool) (c : Cir) (dg : List Int) (l : List (List Int × List Int)) (hb : l.length * 48 ≤ 140737488351232) (hl : ∀ x ∈ l, x.1.length * 8 ≤ 140737488351232 ∧ x.2.length * 8 ≤ 140737488351232) (hc : c.ok) (Q : SV → List HO → Prop) (hq : Q (.v (.int .i64 (idxF (fun x => !lookB c x) 0 l))) []) : FnOk Try.prog 101 [.x 0 [], .fn (.func 83) [] [.x 1 []]] [.ext b (.s false 2 l.length (cL l)), .ext true (.s true 8 1 (fun _ j => ckCell c dg j))] Q := by
  refine fn_of_ok Try.func101 b81 ?_ ?_
  · exact n81
  refine run_sound hm 60 ((ikS b c dg l _ _).mpr ⟨?_⟩)
  exact FOk.loop (l.length + 1) (by kernel_rfl) (ik_loop b c dg l hb hl hc Q l.length 0 (by omega) hq)
noncomputable def g81 : List SV → List HO → Option ((SV → List HO → Prop) → Prop)
  | [.x 0 [], .fn (.func 83) [] [.x 1 []]], [.ext _ (.s false 2 n c), .ext true (.s true 8 1 ck)] => some fun Q => lLk n c fun l => lKc ck fun c dg => Q (.v (.int .i64 (idxF (fun x => !lookB c x) 0 l))) []
  | _, _ => none
theorem g81_ok (args : List SV) (h : List HO) (tr : (SV → List HO → Prop) → Prop) (Q : SV → List HO → Prop) (hc : g81 args h = some tr) (ht : tr Q) : FnOk Try.prog 101 args h Q := by
  unfold g81 at hc
  split at hc
  · simp only [Option.some.injEq] at hc
    subst hc
    obtain ⟨l, rfl, he, hb, hl, hk⟩ := ht.h
    obtain ⟨c, dg, e1, hc, hq⟩ := hk.h
    exact FnOk.ac (ik_ok _ c dg l hb hl hc Q hq) ⟨⟨rfl, rfl, rfl, rfl, he⟩, ⟨rfl, rfl, rfl, rfl, e1⟩, trivial⟩
  · cases hc
noncomputable def K50 : Con Try.prog := (K49.add 85 gEqu gEqu_ok).add 101 g81 g81_ok
end Go.Proofs.Ytlmjdcbhpffanaa
/- The checker: the degree. -/
namespace Go.Pl
open Go.Sx
def mxI (a b : Int) : Int := if a < b then b else a
def baseN (c : Cir) : Int := if 0 < c.looks.length + c.eqs.length then 4 else 3
def degP (c : Cir) (dg : List Int) : Int := c.looks.foldl (fun d l => mxI d (2 + gtN dg l.1 + gtN dg l.2)) (mxI (baseN c) (gtN dg c.gates + 1))
structure degOk (c : Cir) (dg : List Int) : Prop where
  g : ∀ g ∈ c.gates, 0 ≤ g ∧ g < (dg.length : Int)
  l : ∀ x ∈ c.looks, (∀ g ∈ x.1, 0 ≤ g ∧ g < (dg.length : Int)) ∧ ∀ g ∈ x.2, 0 ≤ g ∧ g < (dg.length : Int)
  d : ∀ y ∈ dg, 0 ≤ y ∧ y ≤ 1000
theorem gI_bnd {dg : List Int} (h : ∀ y ∈ dg, 0 ≤ y ∧ y ≤ 1000) (k : Nat) : 0 ≤ gI dg k ∧ gI dg k ≤ 1000 := by
  by_cases hk : k < dg.length
  · exact h _ (gI_mem hk)
  · rw [gI, List.getD_eq_getElem?_getD, List.getElem?_eq_none (by omega)]
    exact ⟨Int.le_refl _, by decide⟩
theorem gtN_bnd {dg : List Int} (h : ∀ y ∈ dg, 0 ≤ y ∧ y ≤ 1000) (l : List Int) : 0 ≤ gtN dg l ∧ gtN dg l ≤ 1000 := by
  have : ∀ (l : List Int) (m : Int), 0 ≤ m ∧ m ≤ 1000 → 0 ≤ l.foldl (fun m g => if m < gI dg g.toNat then gI dg g.toNat else m) m ∧ l.foldl (fun m g => if m < gI dg g.toNat then gI dg g.toNat else m) m ≤ 1000 := by
    intro l
    induction l with
    | nil => intro m hm; exact hm
    | cons g r ih =>
      intro m hm
      rw [List.foldl_cons]
      refine ih _ ?_
      split
      · exact gI_bnd h _
      · exact hm
  exact this l 0 (by omega)
theorem foldl_takeL {α : Type} (f : α → List Int × List Int → α) (a : α) {l : List (List Int × List Int)} {k : Nat} (h : k < l.length) : (l.take (k + 1)).foldl f a = f ((l.take k).foldl f a) (gL l k) := by
  rw [List.take_add_one, List.getElem?_eq_getElem h, List.foldl_append, gL, List.getD_eq_getElem?_getD, List.getElem?_eq_getElem h]; rfl
end Go.Pl
namespace Go.Proofs.Ytlmjdcbhpffanaa
open Go.Sx Go.Pl
set_option linter.unusedVariables false
set_option maxRecDepth 100000
theorem dgeR (b0 b1 b4 : Bool) (c : Cir) (dg : List Int) (m : Int) (k M : Nat) (K : List It → St → Prop) (R : SV → List HO → Prop) : W (xwp Try.prog X K50 [] 60 (fxOf Try.f86 [] [⟨[0,1,0,1,1,1,1], [28,27,26,3,1], []⟩]) [] (.at [0,0,1,0,1,1,1,1] :: .rnd [0,0,1,0,1,1,1,1] M :: [.blk 0, .at [1,1,1,1,1]]) ⟨[(28, .v (.int .i64 (k : Int))), (27, .v (.int .i64 (c.looks.length : Int))), (26, .x 0 []), (3, .v (.int .i64 m)), (1, .p 1 0)], [.ext false (.s false 2 c.looks.length (cL c.looks)), .cells [.v (.int .i64 c.fx), .v (.int .i64 c.ad), .v (.int .i64 c.ins), .x 2 [], .x 3 [], .x 0 [], .x 4 [], .x 5 []] 160, .ext b0 (.s false 7 c.nodes.length (cN c.nodes)), .ext b1 (.s false 1 c.gates.length (cI c.gates)), .ext false (.s false 2 c.eqs.length (cK c.eqs)), .ext b4 (.s false 1 dg.length (cI dg))]⟩ K R) = W (bif decide ((↑k : Int) < (↑c.6.length : Int)) then (∀ M : Mem, (0 : Int) ≤ (↑k : Int) ∧ (↑k : Int) < (↑c.6.length : Int)) ∧ (∀ M : Mem, k < List.length c.6) ∧ (∀ M : Mem, 0 + 2 ≤ 2) ∧ (∀ M : Mem, k < List.length c.6) ∧ lH c.1 c.2 c.3 c.4.length c.5.length c.6.length c.7.length (List.length dg) (cN c.4) (cI c.5) (cL c.6) (cK c.7) (cI dg) fun (c_1 : Cir) (dg_1 : List Int) => lG (List.length dg_1) (List.length (gL c.6 k).1) (cI (gL c.6 k).1) fun (l : List Int) => (∀ M : Mem, k < List.length c.6) ∧ lH c.1 c.2 c.3 c.4.length c.5.length c.6.length c.7.length (List.length dg) (cN c.4) (cI c.5) (cL c.6) (cK c.7) (cI dg) fun (c_2 : Cir) (dg_2 : List Int) => lG (List.length dg_2) (List.length (gL c.6 k).2) (cI (gL c.6 k).2) fun (l_1 : List Int) => K [.rnd [0,0,1,0,1,1,1,1] M, .blk 0, .at [1,1,1,1,1]] (St.mk [(28, .v (vi64 (IntKind.wrap .i64 ((↑k : Int) + (1 : Int))))), (27, .v (vi64 (↑c.6.length : Int))), (26, .x 0 []), (3, .v (vi64 (if m < IntKind.wrap .i64 (IntKind.wrap .i64 ((2 : Int) + gtN dg_1 l) + gtN dg_2 l_1) then IntKind.wrap .i64 (IntKind.wrap .i64 ((2 : Int) + gtN dg_1 l) + gtN dg_2 l_1) else m))), (1, .p 1 0)] [.ext false (.s false 2 c.6.length (cL c.6)), .cells [.v (vi64 c.1), .v (vi64 c.2), .v (vi64 c.3), .x 2 [], .x 3 [], .x 0 [], .x 4 [], .x 5 []] 160, .ext b0 (.s false 7 c.4.length (cN c.4)), .ext b1 (.s false 1 c.5.length (cI c.5)), .ext false (.s false 2 c.7.length (cK c.7)), .ext b4 (.s false 1 (List.length dg) (cI dg))]) else R (.v (vi64 m)) []) := by kernel_rfl
theorem dgeS (b0 b1 b4 : Bool) (c : Cir) (dg : List Int) (K : List It → St → Prop) (R : SV → List HO → Prop) : W (xwp Try.prog X K50 [] 60 (fxOf Try.f86 [] [⟨[0,1,0,1,1,1,1], [28,27,26,3,1], []⟩]) [] [.at []] ⟨argsS 0 [.agg [.v (.int .i64 c.fx), .v (.int .i64 c.ad), .v (.int .i64 c.ins), .x 0 [], .x 1 [], .x 2 [], .x 3 [], .x 4 []]], [.ext b0 (.s false 7 c.nodes.length (cN c.nodes)), .ext b1 (.s false 1 c.gates.length (cI c.gates)), .ext false (.s false 2 c.looks.length (cL c.looks)), .ext false (.s false 2 c.eqs.length (cK c.eqs)), .ext b4 (.s false 1 dg.length (cI dg))]⟩ K R) = W (bif decide ((0 : Int) < IntKind.wrap .i64 ((↑c.6.length : Int) + (↑c.7.length : Int))) then lH c.1 c.2 c.3 c.4.length c.5.length c.6.length c.7.length (List.length dg) (cN c.4) (cI c.5) (cL c.6) (cK c.7) (cI dg) fun (c_1 : Cir) (dg_1 : List Int) => lG (List.length dg_1) c.5.length (cI c.5) fun (l : List Int) => K [.at [0,1,0,1,1,1,1], .blk 0, .at [1,1,1,1,1]] (St.mk [(28, .v (vi64 0)), (27, .v (vi64 (↑c.6.length : Int))), (26, .x 0 []), (3, .v (vi64 (if (4 : Int) < IntKind.wrap .i64 (gtN dg_1 l + (1 : Int)) then IntKind.wrap .i64 (gtN dg_1 l + (1 : Int)) else (4 : Int)))), (1, .p 1 0)] [.ext false (.s false 2 c.6.length (cL c.6)), .cells [.v (vi64 c.1), .v (vi64 c.2), .v (vi64 c.3), .x 2 [], .x 3 [], .x 0 [], .x 4 [], .x 5 []] 160, .ext b0 (.s false 7 c.4.length (cN c.4)), .ext b1 (.s false 1 c.5.length (cI c.5)), .ext false (.s false 2 c.7.length (cK c.7)), .ext b4 (.s false 1 (List.length dg) (cI dg))]) else lH c.1 c.2 c.3 c.4.length c.5.length c.6.length c.7.length (List.length dg) (cN c.4) (cI c.5) (cL c.6) (cK c.7) (cI dg) fun (c_1 : Cir) (dg_1 : List Int) => lG (List.length dg_1) c.5.length (cI c.5) fun (l : List Int) => K [.at [0,1,0,1,1,1,1], .blk 0, .at [1,1,1,1,1]] (St.mk [(28, .v (vi64 0)), (27, .v (vi64 (↑c.6.length : Int))), (26, .x 0 []), (3, .v (vi64 (if (3 : Int) < IntKind.wrap .i64 (gtN dg_1 l + (1 : Int)) then IntKind.wrap .i64 (gtN dg_1 l + (1 : Int)) else (3 : Int)))), (1, .p 1 0)] [.ext false (.s false 2 c.6.length (cL c.6)), .cells [.v (vi64 c.1), .v (vi64 c.2), .v (vi64 c.3), .x 2 [], .x 3 [], .x 0 [], .x 4 [], .x 5 []] 160, .ext b0 (.s false 7 c.4.length (cN c.4)), .ext b1 (.s false 1 c.5.length (cI c.5)), .ext false (.s false 2 c.7.length (cK c.7)), .ext b4 (.s false 1 (List.length dg) (cI dg))])) := by kernel_rfl
theorem dge_loop (b0 b1 b4 : Bool) (c : Cir) (dg : List Int) (hc : c.ok) (ho : degOk c dg) (Q : SV → List HO → Prop) (hq : Q (.v (.int .i64 (degP c dg))) []) : ∀ (d k : Nat) (m : Int), k + d = c.looks.length → m = (c.looks.take k).foldl (fun d l => mxI d (2 + gtN dg l.1 + gtN dg l.2)) (mxI (baseN c) (gtN dg c.gates + 1)) →
    FOk Try.prog Try.f86 Q (.rnd [0,0,1,0,1,1,1,1] (d + 1) :: [.blk 0, .at [1,1,1,1,1]]) ⟨[(28, .v (.int .i64 (k : Int))), (27, .v (.int .i64 (c.looks.length : Int))), (26, .x 0 []), (3, .v (.int .i64 m)), (1, .p 1 0)], [.ext false (.s false 2 c.looks.length (cL c.looks)), .cells [.v (.int .i64 c.fx), .v (.int .i64 c.ad), .v (.int .i64 c.ins), .x 2 [], .x 3 [], .x 0 [], .x 4 [], .x 5 []] 160, .ext b0 (.s false 7 c.nodes.length (cN c.nodes)), .ext b1 (.s false 1 c.gates.length (cI c.gates)), .ext false (.s false 2 c.eqs.length (cK c.eqs)), .ext b4 (.s false 1 dg.length (cI dg))]⟩
  | 0, k, m, hd, he => by
    refine FOk.rnd (run_sound hm 60 ((dgeR b0 b1 b4 c dg m k 0 _ _).mpr ⟨?_⟩))
    rw [cond_dec, if_neg (by omega)]
    rw [show k = c.looks.length by omega, List.take_length] at he
    rw [he]
    exact hq
  | d + 1, k, m, hd, he => by
    have hk : k < c.looks.length := by omega
    have h1 := hc.l.2
    obtain ⟨⟨_, g1⟩, ⟨_, g2⟩⟩ := hc.l.1 _ (gL_mem hk)
    obtain ⟨o1, o2⟩ := ho.l _ (gL_mem hk)
    have t1 := gtN_bnd ho.d (gL c.looks k).1
    have t2 := gtN_bnd ho.d (gL c.looks k).2
    refine FOk.rnd (run_sound hm 60 ((dgeR b0 b1 b4 c dg m k (d + 1) _ _).mpr ⟨?_⟩))
    rw [cond_dec, if_pos (by omega), wrap_inc _ (by omega)]
    refine And.intro (fun _ => by omega) (And.intro (fun _ => by omega) (And.intro (fun _ => by omega) (And.intro (fun _ => by omega) (lH_mk c dg hc ⟨⟨_, rfl, IsC.refl _ _ _, by omega, o1, And.intro (fun _ => hk) (lH_mk c dg hc ⟨⟨_, rfl, IsC.refl _ _ _, by omega, o2, ?_⟩⟩)⟩⟩))))
    rw [wrap_in (2 + gtN dg (gL c.looks k).1) (by omega), wrap_in (2 + gtN dg (gL c.looks k).1 + gtN dg (gL c.looks k).2) (by omega)]
    exact dge_loop b0 b1 b4 c dg hc ho Q hq d (k + 1) _ (by omega) (by rw [foldl_takeL _ _ hk, ← he]; rfl)
theorem bDge : Try.f86.body.isSome = true := by kernel_rfl
theorem nDge (c : Cir) : Nat.ble [(.agg [.v (.int .i64 c.fx), .v (.int .i64 c.ad), .v (.int .i64 c.ins), .x 0 [], .x 1 [], .x 2 [], .x 3 [], .x 4 []] : SV)].length Try.f86.ntmps = true := by kernel_rfl
theorem dge_ok (b0 b1 b4 : Bool) (c : Cir) (dg : List Int) (hc : c.ok) (ho : degOk c dg) (Q : SV → List HO → Prop) (hq : Q (.v (.int .i64 (degP c dg))) []) : FnOk Try.prog 86 [.agg [.v (.int .i64 c.fx), .v (.int .i64 c.ad), .v (.int .i64 c.ins), .x 0 [], .x 1 [], .x 2 [], .x 3 [], .x 4 []]] [.ext b0 (.s false 7 c.nodes.length (cN c.nodes)), .ext b1 (.s false 1 c.gates.length (cI c.gates)), .ext false (.s false 2 c.looks.length (cL c.looks)), .ext false (.s false 2 c.eqs.length (cK c.eqs)), .ext b4 (.s false 1 dg.length (cI dg))] Q := by
  refine fn_of_ok Try.func86 bDge ?_ ?_
  · exact nDge c
  have h1 := hc.e.2
  have h2 := hc.l.2
  have h3 := hc.g.2
  have t := gtN_bnd ho.d c.gates
  refine run_sound hm 60 ((dgeS b0 b1 b4 c dg _ _).mpr ⟨?_⟩)
  rw [cond_dec, wrap_in ((c.looks.length : Int) + (c.eqs.length : Int)) (by omega)]
  refine ite_intro (fun h => ?_) (fun h => ?_)
  · refine lH_mk c dg hc ⟨⟨_, rfl, IsC.refl _ _ _, by omega, ho.g, ?_⟩⟩
    rw [wrap_in (gtN dg c.gates + 1) (by omega)]
    exact FOk.loop (c.looks.length + 1) (by kernel_rfl) (dge_loop b0 b1 b4 c dg hc ho Q hq c.looks.length 0 _ (by omega) (by rw [show baseN c = 4 by rw [baseN, if_pos (by omega)]]; rfl))
  · refine lH_mk c dg hc ⟨⟨_, rfl, IsC.refl _ _ _, by omega, ho.g, ?_⟩⟩
    rw [wrap_in (gtN dg c.gates + 1) (by omega)]
    exact FOk.loop (c.looks.length + 1) (by kernel_rfl) (dge_loop b0 b1 b4 c dg hc ho Q hq c.looks.length 0 _ (by omega) (by rw [show baseN c = 3 by rw [baseN, if_neg (by omega)]]; rfl))
noncomputable def gDge : List SV → List HO → Option ((SV → List HO → Prop) → Prop)
  | [.agg [.v (.int .i64 fx), .v (.int .i64 ad), .v (.int .i64 ins), .x 0 [], .x 1 [], .x 2 [], .x 3 [], .x 4 []]], [.ext _ (.s false 7 n0 c0), .ext _ (.s false 1 n1 c1), .ext false (.s false 2 n2 c2), .ext false (.s false 2 n3 c3), .ext _ (.s false 1 n4 c4)] => some fun Q => lH fx ad ins n0 n1 n2 n3 n4 c0 c1 c2 c3 c4 fun c dg => degOk c dg ∧ Q (.v (.int .i64 (degP c dg))) []
  | _, _ => none
theorem gDge_ok (args : List SV) (h : List HO) (tr : (SV → List HO → Prop) → Prop) (Q : SV → List HO → Prop) (hc : gDge args h = some tr) (ht : tr Q) : FnOk Try.prog 86 args h Q := by
  unfold gDge at hc
  split at hc
  · simp only [Option.some.injEq] at hc
    subst hc
    obtain ⟨c, dg, rfl, rfl, rfl, ⟨rfl, e0⟩, ⟨rfl, e1⟩, ⟨rfl, e2⟩, ⟨rfl, e3⟩, ⟨rfl, e4⟩, hk, hq⟩ := ht.h
    exact FnOk.ac (dge_ok _ _ _ c dg hk hq.1 Q hq.2) ⟨⟨rfl, rfl, rfl, rfl, e0⟩, ⟨rfl, rfl, rfl, rfl, e1⟩, ⟨rfl, rfl, rfl, rfl, e2⟩, ⟨rfl, rfl, rfl, rfl, e3⟩, ⟨rfl, rfl, rfl, rfl, e4⟩, trivial⟩
  · cases hc

noncomputable def K51 : Con Try.prog := K50.add 86 gDge gDge_ok
end Go.Proofs.Ytlmjdcbhpffanaa
/- circuit.Degree. -/
namespace Go.Pl
open Go.Sx
def goodB (c : Cir) : Bool := cntB c && !c.gates.any (fun n => !placeB c n) && !c.looks.any (fun x => !lookB c x) && eqF c [] c.eqs && decide (degP c (degrees c.nodes) ≤ 8)
def chkC (c : Cir) : Int := if chkN c.nodes c.fx c.ad c.ins = 0 then (if goodB c then 0 else 120) else chkN c.nodes c.fx c.ad c.ins
def degV (c : Cir) : Int := if chkC c = 0 then degP c (degrees c.nodes) else 0
theorem degsN_bnd : ∀ (l : List Nd) (out : List Int), (∀ z ∈ out, 0 ≤ z ∧ z ≤ 1000) → ∀ z ∈ degsN out l, 0 ≤ z ∧ z ≤ 1000
  | [], out, h => h
  | x :: r, out, h => by
    rw [degsN]
    refine degsN_bnd r _ fun z hz => ?_
    rcases List.mem_append.1 hz with hz | hz
    · exact h z hz
    · rw [List.mem_singleton] at hz
      rw [hz]
      exact degN_bound h x
theorem degrees_bnd (l : List Nd) : ∀ z ∈ degrees l, 0 ≤ z ∧ z ≤ 1000 := by
  rw [degrees]
  split
  · exact degsN_bnd l [] (fun z hz => by cases hz)
  · intro z hz; cases hz
theorem chkN_ord {l : List Nd} {f a i : Int} (h : chkN l f a i = 0) : l.length ≤ 64 ∧ ordN 0 l = true := by
  rw [chkN] at h
  split at h
  · cases h
  · rename_i hh
    refine ⟨by omega, ?_⟩
    cases ho : ordN 0 l with
    | true => rfl
    | false => exact absurd (.inr (.inl ho)) hh
theorem degrees_full {l : List Nd} (h : ordN 0 l = true) : (degrees l).length = l.length := by
  rw [degrees, if_pos h, degsN_length]; simp
theorem any_not {α : Type} {p : α → Bool} {l : List α} (h : l.any (fun n => !p n) = false) : ∀ x ∈ l, p x = true := by
  intro x hx
  have := List.any_eq_false.1 h x hx
  simpa using this
theorem flat_place {c : Cir} {x : Int} (h : flatB c x = true) : 0 ≤ x ∧ x < (c.nodes.length : Int) := by
  rw [flatB, Bool.and_eq_true, decide_eq_true_eq] at h
  exact h.1
theorem look_places {c : Cir} {x : List Int × List Int} (h : lookB c x = true) : (∀ g ∈ x.1, flatB c g = true) ∧ (∀ g ∈ x.2, flatB c g = true) ∧ 1 ≤ x.1.length ∧ x.1.length ≤ 4 ∧ x.2.length = x.1.length := by
  simp only [lookB, Bool.and_eq_true, Bool.not_eq_true', decide_eq_true_eq] at h
  obtain ⟨⟨h1, h2⟩, h3⟩ := h
  exact ⟨any_not h2, any_not h3, h1⟩
theorem degOk_of {c : Cir} (h0 : chkN c.nodes c.fx c.ad c.ins = 0) (h1 : c.gates.any (fun n => !placeB c n) = false) (h2 : c.looks.any (fun x => !lookB c x) = false) : degOk c (degrees c.nodes) where
  g := by
    intro g hg
    have := any_not h1 g hg
    rw [placeB, decide_eq_true_eq] at this
    rw [degrees_full (chkN_ord h0).2]
    exact this
  l := by
    intro x hx
    obtain ⟨p1, p2, _⟩ := look_places (any_not h2 x hx)
    rw [degrees_full (chkN_ord h0).2]
    exact ⟨fun g hg => flat_place (p1 g hg), fun g hg => flat_place (p2 g hg)⟩
  d := degrees_bnd c.nodes
theorem chkC_bad {c : Cir} (h0 : chkN c.nodes c.fx c.ad c.ins = 0) (h : goodB c = false) : chkC c = 120 ∧ degV c = 0 := by
  have : chkC c = 120 := by rw [chkC, if_pos h0, h]; rfl
  exact ⟨this, by rw [degV, this]; rfl⟩
theorem chkC_good {c : Cir} (h0 : chkN c.nodes c.fx c.ad c.ins = 0) (h : goodB c = true) : chkC c = 0 ∧ degV c = degP c (degrees c.nodes) := by
  have : chkC c = 0 := by rw [chkC, if_pos h0, h]; rfl
  exact ⟨this, by rw [degV, this]; rfl⟩
end Go.Pl
namespace Go.Proofs.Ytlmjdcbhpffanaa
open Go.Sx Go.Pl
set_option linter.unusedVariables false
set_option maxRecDepth 100000
theorem pdS (b0 b1 : Bool) (c : Cir) (K : List It → St → Prop) (R : SV → List HO → Prop) : W (xwp Try.prog X K51 [(79, []), (82, [])] 60 (fxOf Try.f56 [] []) [] [.at []] ⟨argsS 0 [.agg [.v (.int .i64 c.fx), .v (.int .i64 c.ad), .v (.int .i64 c.ins), .x 0 [], .x 1 [], .x 2 [], .x 3 []]], [.ext b0 (.s false 7 c.nodes.length (cN c.nodes)), .ext b1 (.s false 1 c.gates.length (cI c.gates)), .ext false (.s false 2 c.looks.length (cL c.looks)), .ext false (.s false 2 c.eqs.length (cK c.eqs))]⟩ K R) = W (∃ (l : List Nd), List.length c.4 = List.length l ∧ IsC c.4.length 7 (cN c.4) (cN l) ∧ List.length l ≤ 4398046511104 ∧ bif !chkN l c.1 c.2 c.3 == (0 : Int) then R (.tup [.v (vi64 0), .v (vi64 (chkN l c.1 c.2 c.3))]) [] else (∃ (l : List Nd), List.length c.4 = List.length l ∧ IsC c.4.length 7 (cN c.4) (cN l) ∧ List.length l ≤ 4398046511104 ∧ (∀ M : Mem, 0 + 8 ≤ 8) ∧ lH c.1 c.2 c.3 c.4.length c.5.length c.6.length c.7.length (List.length (degrees l)) (cN c.4) (cI c.5) (cL c.6) (cK c.7) (cI (degrees l)) fun (c_1 : Cir) (dg : List Int) => bif !cntB c_1 then R (.tup [.v (vi64 0), .v (vi64 120)]) [] else lI c.5.length (cI c.5) fun (l_1 : List Int) => lKc (lc 8 [.v (vi64 c.1), .v (vi64 c.2), .v (vi64 c.3), .s false 7 c.4.length (cN c.4), .s false 1 c.5.length (cI c.5), .s false 2 c.6.length (cL c.6), .s false 2 c.7.length (cK c.7), .s false 1 (List.length (degrees l)) (cI (degrees l))]) fun (c_2 : Cir) (dg : List Int) => bif decide ((0 : Int) ≤ idxF (fun (n : Int) => !placeB c_2 n) 0 l_1) then R (.tup [.v (vi64 0), .v (vi64 120)]) [] else lLk c.6.length (cL c.6) fun (l_2 : List (List Int × List Int)) => lKc (lc 8 [.v (vi64 c.1), .v (vi64 c.2), .v (vi64 c.3), .s false 7 c.4.length (cN c.4), .s false 1 c.5.length (cI c.5), .s false 2 c.6.length (cL c.6), .s false 2 c.7.length (cK c.7), .s false 1 (List.length (degrees l)) (cI (degrees l))]) fun (c_3 : Cir) (dg : List Int) => bif decide ((0 : Int) ≤ idxF (fun (x : List Int × List Int) => !lookB c_3 x) 0 l_2) then R (.tup [.v (vi64 0), .v (vi64 120)]) [] else lH c.1 c.2 c.3 c.4.length c.5.length c.6.length c.7.length (List.length (degrees l)) (cN c.4) (cI c.5) (cL c.6) (cK c.7) (cI (degrees l)) fun (c_4 : Cir) (dg : List Int) => bif !eqF c_4 [] c_4.7 then R (.tup [.v (vi64 0), .v (vi64 120)]) [] else lH c.1 c.2 c.3 c.4.length c.5.length c.6.length c.7.length (List.length (degrees l)) (cN c.4) (cI c.5) (cL c.6) (cK c.7) (cI (degrees l)) fun (c_5 : Cir) (dg : List Int) => degOk c_5 dg ∧ bif decide ((8 : Int) < degP c_5 dg) then R (.tup [.v (vi64 0), .v (vi64 120)]) [] else lH c.1 c.2 c.3 c.4.length c.5.length c.6.length c.7.length (List.length (degrees l)) (cN c.4) (cI c.5) (cL c.6) (cK c.7) (cI (degrees l)) fun (c : Cir) (dg : List Int) => degOk c dg ∧ R (.tup [.v (vi64 (degP c dg)), .v (vi64 0)]) []) ∧ ∃ (l : List Nd), List.length c.4 = List.length l ∧ IsC c.4.length 7 (cN c.4) (cN l) ∧ List.length l ≤ 4398046511104 ∧ (∀ M : Mem, 0 + 8 ≤ 8) ∧ lH c.1 c.2 c.3 c.4.length c.5.length c.6.length c.7.length (List.length (degrees l)) (cN c.4) (cI c.5) (cL c.6) (cK c.7) (cI (degrees l)) fun (c_1 : Cir) (dg : List Int) => bif !cntB c_1 then R (.tup [.v (vi64 0), .v (vi64 120)]) [] else lI c.5.length (cI c.5) fun (l_1 : List Int) => lKc (lc 8 [.v (vi64 c.1), .v (vi64 c.2), .v (vi64 c.3), .s false 7 c.4.length (cN c.4), .s false 1 c.5.length (cI c.5), .s false 2 c.6.length (cL c.6), .s false 2 c.7.length (cK c.7), .s false 1 (List.length (degrees l)) (cI (degrees l))]) fun (c_2 : Cir) (dg : List Int) => bif decide ((0 : Int) ≤ idxF (fun (n : Int) => !placeB c_2 n) 0 l_1) then R (.tup [.v (vi64 0), .v (vi64 120)]) [] else lLk c.6.length (cL c.6) fun (l_2 : List (List Int × List Int)) => lKc (lc 8 [.v (vi64 c.1), .v (vi64 c.2), .v (vi64 c.3), .s false 7 c.4.length (cN c.4), .s false 1 c.5.length (cI c.5), .s false 2 c.6.length (cL c.6), .s false 2 c.7.length (cK c.7), .s false 1 (List.length (degrees l)) (cI (degrees l))]) fun (c_3 : Cir) (dg : List Int) => bif decide ((0 : Int) ≤ idxF (fun (x : List Int × List Int) => !lookB c_3 x) 0 l_2) then R (.tup [.v (vi64 0), .v (vi64 120)]) [] else lH c.1 c.2 c.3 c.4.length c.5.length c.6.length c.7.length (List.length (degrees l)) (cN c.4) (cI c.5) (cL c.6) (cK c.7) (cI (degrees l)) fun (c_4 : Cir) (dg : List Int) => bif !eqF c_4 [] c_4.7 then R (.tup [.v (vi64 0), .v (vi64 120)]) [] else lH c.1 c.2 c.3 c.4.length c.5.length c.6.length c.7.length (List.length (degrees l)) (cN c.4) (cI c.5) (cL c.6) (cK c.7) (cI (degrees l)) fun (c_5 : Cir) (dg : List Int) => degOk c_5 dg ∧ bif decide ((8 : Int) < degP c_5 dg) then R (.tup [.v (vi64 0), .v (vi64 120)]) [] else lH c.1 c.2 c.3 c.4.length c.5.length c.6.length c.7.length (List.length (degrees l)) (cN c.4) (cI c.5) (cL c.6) (cK c.7) (cI (degrees l)) fun (c : Cir) (dg : List Int) => degOk c dg ∧ R (.tup [.v (vi64 (degP c dg)), .v (vi64 0)]) []) := by kernel_rfl
theorem bPd : Try.f56.body.isSome = true := by kernel_rfl
theorem nPd (c : Cir) : Nat.ble [(.agg [.v (.int .i64 c.fx), .v (.int .i64 c.ad), .v (.int .i64 c.ins), .x 0 [], .x 1 [], .x 2 [], .x 3 []] : SV)].length Try.f56.ntmps = true := by kernel_rfl
theorem pd_ok (b0 b1 : Bool) (c : Cir) (hc : c.ok) (Q : SV → List HO → Prop) (hq : Q (.tup [.v (.int .i64 (degV c)), .v (.int .i64 (chkC c))]) []) : FnOk Try.prog 56 [.agg [.v (.int .i64 c.fx), .v (.int .i64 c.ad), .v (.int .i64 c.ins), .x 0 [], .x 1 [], .x 2 [], .x 3 []]] [.ext b0 (.s false 7 c.nodes.length (cN c.nodes)), .ext b1 (.s false 1 c.gates.length (cI c.gates)), .ext false (.s false 2 c.looks.length (cL c.looks)), .ext false (.s false 2 c.eqs.length (cK c.eqs))] Q := by
  refine fn_of_ok Try.func56 bPd ?_ ?_
  · exact nPd c
  have h1 := hc.n.2
  have h2 := hc.g.2
  have h3 := hc.l.2
  refine run_sound hm 60 ((pdS b0 b1 c _ _).mpr ⟨?_⟩)
  refine ⟨c.nodes, rfl, IsC.refl _ _ _, by omega, ?_⟩
  simp only [cond_dec, cond_not, cond_beq]
  refine ite_intro (fun h0 => ?_) (fun h0 => ?_)
  · have no : goodB c = false → Q (.tup [.v (.int .i64 0), .v (.int .i64 120)]) [] := fun h => by
      obtain ⟨e1, e2⟩ := chkC_bad h0 h
      rw [e1, e2] at hq
      exact hq
    have yes : goodB c = true → Q (.tup [.v (.int .i64 (degP c (degrees c.nodes))), .v (.int .i64 0)]) [] := fun h => by
      obtain ⟨e1, e2⟩ := chkC_good h0 h
      rw [e1, e2] at hq
      exact hq
    have lk : ∀ x ∈ c.looks, x.1.length * 8 ≤ 140737488351232 ∧ x.2.length * 8 ≤ 140737488351232 := fun x hx => ⟨(hc.l.1 x hx).1.2, (hc.l.1 x hx).2.2⟩
    refine And.intro ?_ ?_
    all_goals
      refine ⟨c.nodes, rfl, IsC.refl _ _ _, by omega, And.intro (fun _ => by omega) (lH_mk c _ hc (cond_intro (fun a1 => ?_) (fun a1 => no ?_)))⟩
      · refine ⟨⟨c.gates, rfl, IsC.refl _ _ _, by omega, lKc_lc c _ hc (ite_intro (fun a2 => no ?_) (fun a2 => ?_))⟩⟩
        · rw [goodB, ← idxF_any (fun n => !placeB c n) c.gates 0, decide_eq_true a2]; simp
        · have a2' : c.gates.any (fun n => !placeB c n) = false := by rw [← idxF_any _ c.gates 0, decide_eq_false a2]
          refine ⟨⟨c.looks, rfl, IsC.refl _ _ _, h3, lk, lKc_lc c _ hc (ite_intro (fun a3 => no ?_) (fun a3 => ?_))⟩⟩
          · rw [goodB, ← idxF_any (fun x => !lookB c x) c.looks 0, decide_eq_true a3]; simp
          · have a3' : c.looks.any (fun x => !lookB c x) = false := by rw [← idxF_any _ c.looks 0, decide_eq_false a3]
            have ho := degOk_of h0 a2' a3'
            refine lH_mk c _ hc (cond_intro (fun a4 => ?_) (fun a4 => no ?_))
            · refine lH_mk c _ hc ⟨ho, ite_intro (fun a5 => no ?_) (fun a5 => lH_mk c _ hc ⟨ho, yes ?_⟩)⟩
              · rw [goodB, decide_eq_false (by omega)]; simp
              · rw [goodB, a1, a2', a3', a4, decide_eq_true (by omega)]; rfl
            · rw [goodB, a4]; simp
      · rw [goodB, a1]; rfl
  · have e1 : chkC c = chkN c.nodes c.fx c.ad c.ins := by rw [chkC, if_neg h0]
    rw [degV, e1, if_neg h0] at hq
    exact hq
noncomputable def gPd : List SV → List HO → Option ((SV → List HO → Prop) → Prop)
  | [.agg [.v (.int .i64 fx), .v (.int .i64 ad), .v (.int .i64 ins), .x 0 [], .x 1 [], .x 2 [], .x 3 []]], [.ext _ (.s false 7 n0 c0), .ext _ (.s false 1 n1 c1), .ext false (.s false 2 n2 c2), .ext false (.s false 2 n3 c3)] =>
    some fun Q => lC fx ad ins n0 n1 n2 n3 c0 c1 c2 c3 fun c => Q (.tup [.v (.int .i64 (degV c)), .v (.int .i64 (chkC c))]) []
  | _, _ => none
theorem gPd_ok (args : List SV) (h : List HO) (tr : (SV → List HO → Prop) → Prop) (Q : SV → List HO → Prop) (hc : gPd args h = some tr) (ht : tr Q) : FnOk Try.prog 56 args h Q := by
  unfold gPd at hc
  split at hc
  · simp only [Option.some.injEq] at hc
    subst hc
    obtain ⟨c, rfl, rfl, rfl, ⟨rfl, e0⟩, ⟨rfl, e1⟩, ⟨rfl, e2⟩, ⟨rfl, e3⟩, hk, hq⟩ := ht.h
    exact FnOk.ac (pd_ok _ _ c hk Q hq) ⟨⟨rfl, rfl, rfl, rfl, e0⟩, ⟨rfl, rfl, rfl, rfl, e1⟩, ⟨rfl, rfl, rfl, rfl, e2⟩, ⟨rfl, rfl, rfl, rfl, e3⟩, trivial⟩
  · cases hc
noncomputable def K52 : Con Try.prog := K51.add 56 gPd gPd_ok
end Go.Proofs.Ytlmjdcbhpffanaa
/- Usable rows. -/
namespace Go.Pl
open Go.Sx
def usN (k : Int) : Int := if k < 2 then 0 else if 30 < k then 0 else 2 ^ k.toNat - 4
theorem pow_bnd {k : Int} (h1 : 2 ≤ k) (h2 : k ≤ 30) : (4 : Int) ≤ 2 ^ k.toNat ∧ (2 : Int) ^ k.toNat ≤ 1073741824 := by
  have e1 : (2 : Nat) ^ 2 ≤ 2 ^ k.toNat := Nat.pow_le_pow_right (by omega) (by omega)
  have e2 : (2 : Nat) ^ k.toNat ≤ 2 ^ 30 := Nat.pow_le_pow_right (by omega) (by omega)
  have e3 : ((2 ^ k.toNat : Nat) : Int) = (2 : Int) ^ k.toNat := by push_cast; rfl
  omega
theorem us_eq {k : Int} (h1 : 2 ≤ k) (h2 : k ≤ 30) : IntKind.wrap IntKind.i64 (IntKind.wrap IntKind.i64 ((1 : Int) * (2 : Int) ^ (if Int.toNat k ≤ 64 then Int.toNat k else 64)) - (4 : Int)) = usN k := by
  obtain ⟨p1, p2⟩ := pow_bnd h1 h2
  rw [if_pos (by omega), Int.one_mul, wrap_in (2 ^ k.toNat) (by omega), wrap_in (2 ^ k.toNat - 4) (by omega), usN, if_neg (by omega), if_neg (by omega)]
end Go.Pl
namespace Go.Proofs.Ytlmjdcbhpffanaa
open Go.Sx Go.Pl
set_option linter.unusedVariables false
set_option maxRecDepth 100000
theorem usS (k : Int) (K : List It → St → Prop) (R : SV → List HO → Prop) : W (xwp Try.prog X K52 [] 60 (fxOf Try.f15 [] []) [] [.at []] ⟨argsS 0 [.v (.int .i64 k)], []⟩ K R) = W (bif decide (k < (2 : Int)) then R (.v (vi64 0)) [] else bif decide ((30 : Int) < k) then R (.v (vi64 0)) [] else (∀ M : Mem, ¬k < (0 : Int)) ∧ R (.v (vi64 (IntKind.wrap .i64 (IntKind.wrap .i64 ((1 : Int) * (2 : Int) ^ if Int.toNat k ≤ 64 then Int.toNat k else 64) - (4 : Int))))) []) := by kernel_rfl
theorem bus : Try.f15.body.isSome = true := by kernel_rfl
theorem nus (k : Int) : Nat.ble [SV.v (.int .i64 k)].length Try.f15.ntmps = true := by kernel_rfl
theorem us_ok (k : Int) (Q : SV → List HO → Prop) (hq : Q (.v (.int .i64 (usN k))) []) : FnOk Try.prog 15 [.v (.int .i64 k)] [] Q := by
  refine fn_of_ok Try.func15 bus ?_ ?_
  · exact nus k
  refine run_sound hm 60 ((usS k _ _).mpr ⟨?_⟩)
  simp only [cond_dec]
  refine ite_intro (fun h => ?_) (fun h => ite_intro (fun h2 => ?_) (fun h2 => ?_))
  · rw [usN, if_pos h] at hq
    exact hq
  · rw [usN, if_neg h, if_pos h2] at hq
    exact hq
  · refine And.intro (fun _ => by omega) ?_
    rw [us_eq (by omega) (by omega)]
    exact hq
noncomputable def g_us : List SV → List HO → Option ((SV → List HO → Prop) → Prop)
  | [.v (.int .i64 k)], [] => some fun Q => Q (.v (.int .i64 (usN k))) []
  | _, _ => none
theorem g_us_ok (args : List SV) (h : List HO) (tr : (SV → List HO → Prop) → Prop) (Q : SV → List HO → Prop) (hc : g_us args h = some tr) (ht : tr Q) : FnOk Try.prog 15 args h Q := by
  unfold g_us at hc
  split at hc
  · simp only [Option.some.injEq] at hc
    subst hc
    exact us_ok _ Q ht
  · cases hc
noncomputable def K53 : Con Try.prog := (K52.add 15 g_us g_us_ok)
end Go.Proofs.Ytlmjdcbhpffanaa
/- circuit.Rows. -/
namespace Go.Pl
open Go.Sx
def frQ (f : Int) (q : Int × Int × Int) : Int := if f < IntKind.wrap .i64 (0 - q.2.2) then IntKind.wrap .i64 (0 - q.2.2) else f
def toQ (kk t : Int) (q : Int × Int × Int) : Int := if IntKind.wrap .i64 (usN kk - q.2.2) < t then IntKind.wrap .i64 (usN kk - q.2.2) else t
def rowsQ (l : List (Int × Int × Int)) (k : Int) : Int × Int := if l.foldl (toQ k) (usN k) ≤ l.foldl frQ 0 then (0, 0) else (l.foldl frQ 0, l.foldl (toQ k) (usN k))
def rowsV (c : Cir) (k x : Int) : Int × Int := if chkC c = 0 ∧ 0 ≤ x ∧ x < (c.nodes.length : Int) then rowsQ (coneQ c x) k else (0, 0)
theorem foldl_takeQ {α : Type} (f : α → Int × Int × Int → α) (a : α) {l : List (Int × Int × Int)} {k : Nat} (h : k < l.length) : (l.take (k + 1)).foldl f a = f ((l.take k).foldl f a) (gQ l k) := by
  rw [List.take_add_one, List.getElem?_eq_getElem h, List.foldl_append, gQ, List.getD_eq_getElem?_getD, List.getElem?_eq_getElem h]; rfl
end Go.Pl
namespace Go.Proofs.Ytlmjdcbhpffanaa
open Go.Sx Go.Pl
set_option linter.unusedVariables false
set_option maxRecDepth 100000
theorem prS (b0 b1 : Bool) (c : Cir) (k x : Int) (K : List It → St → Prop) (R : SV → List HO → Prop) : W (xwp Try.prog X K53 [(32, [])] 60 (fxOf Try.f29 [] [⟨[0,1,0,1,1,1], [32,31,30,9,8,1], []⟩]) [] [.at []] ⟨argsS 0 [.agg [.v (.int .i64 c.fx), .v (.int .i64 c.ad), .v (.int .i64 c.ins), .x 0 [], .x 1 [], .x 2 [], .x 3 []], .v (.int .i64 k), .v (.int .i64 x)], [.ext b0 (.s false 7 c.nodes.length (cN c.nodes)), .ext b1 (.s false 1 c.gates.length (cI c.gates)), .ext false (.s false 2 c.looks.length (cL c.looks)), .ext false (.s false 2 c.eqs.length (cK c.eqs))]⟩ K R) = W (lC c.1 c.2 c.3 c.4.length c.5.length c.6.length c.7.length (cN c.4) (cI c.5) (cL c.6) (cK c.7) fun (c_1 : Cir) => bif !chkC c_1 == (0 : Int) then R (.tup [.v (vi64 0), .v (vi64 0)]) [] else bif decide (x < (0 : Int)) then R (.tup [.v (vi64 0), .v (vi64 0)]) [] else bif decide ((↑c.4.length : Int) ≤ x) then R (.tup [.v (vi64 0), .v (vi64 0)]) [] else lC c.1 c.2 c.3 c.4.length c.5.length c.6.length c.7.length (cN c.4) (cI c.5) (cL c.6) (cK c.7) fun (c : Cir) => K [.at [0,1,0,1,1,1], .blk 0, .at [1,1,1,1]] (St.mk [(32, .v (vi64 0)), (31, .v (vi64 (↑(List.length (coneQ c x)) : Int))), (30, .o 0), (9, .v (vi64 (usN k))), (8, .v (vi64 0)), (1, .v (vi64 k))] [.rowc 128 3 (List.length (coneQ c x)) (.fn (cQ (coneQ c x)))])) := by kernel_rfl
theorem prR (l : List (Int × Int × Int)) (f t kk : Int) (k M : Nat) (K : List It → St → Prop) (R : SV → List HO → Prop) : W (xwp Try.prog X K53 [] 60 (fxOf Try.f29 [] [⟨[0,1,0,1,1,1], [32,31,30,9,8,1], []⟩]) [] (.at [0,0,1,0,1,1,1] :: .rnd [0,0,1,0,1,1,1] M :: [.blk 0, .at [1,1,1,1]]) ⟨[(32, .v (.int .i64 (k : Int))), (31, .v (.int .i64 (l.length : Int))), (30, .o 0), (9, .v (.int .i64 t)), (8, .v (.int .i64 f)), (1, .v (.int .i64 kk))], [.rowc 128 3 l.length (.fn (cQ l))]⟩ K R) = W (bif decide ((↑k : Int) < (↑(List.length l) : Int)) then (∀ M : Mem, (0 : Int) ≤ (↑k : Int) ∧ (↑k : Int) < (↑(List.length l) : Int)) ∧ (∀ M : Mem, k < List.length l) ∧ (∀ M : Mem, 0 + 3 ≤ 3) ∧ K [.rnd [0,0,1,0,1,1,1] M, .blk 0, .at [1,1,1,1]] (St.mk [(32, .v (vi64 (IntKind.wrap .i64 ((↑k : Int) + (1 : Int))))), (31, .v (vi64 (↑(List.length l) : Int))), (30, .o 0), (9, .v (vi64 (if IntKind.wrap .i64 (usN kk - (gQ l k).2.2) < t then IntKind.wrap .i64 (usN kk - (gQ l k).2.2) else t))), (8, .v (vi64 (if f < IntKind.wrap .i64 ((0 : Int) - (gQ l k).2.2) then IntKind.wrap .i64 ((0 : Int) - (gQ l k).2.2) else f))), (1, .v (vi64 kk))] [.rowc 128 3 (List.length l) (.fn (cQ l))]) else bif decide (t ≤ f) then R (.tup [.v (vi64 0), .v (vi64 0)]) [] else R (.tup [.v (vi64 f), .v (vi64 t)]) []) := by kernel_rfl
theorem pr_loop (l : List (Int × Int × Int)) (hl : l.length ≤ 4398046511104) (kk : Int) (Q : SV → List HO → Prop) (hq : Q (.tup [.v (.int .i64 (rowsQ l kk).1), .v (.int .i64 (rowsQ l kk).2)]) []) : ∀ (d k : Nat) (f t : Int), k + d = l.length → f = (l.take k).foldl frQ 0 → t = (l.take k).foldl (toQ kk) (usN kk) →
    FOk Try.prog Try.f29 Q (.rnd [0,0,1,0,1,1,1] (d + 1) :: [.blk 0, .at [1,1,1,1]]) ⟨[(32, .v (.int .i64 (k : Int))), (31, .v (.int .i64 (l.length : Int))), (30, .o 0), (9, .v (.int .i64 t)), (8, .v (.int .i64 f)), (1, .v (.int .i64 kk))], [.rowc 128 3 l.length (.fn (cQ l))]⟩
  | 0, k, f, t, hd, hf, ht => by
    refine FOk.rnd (run_sound hm 60 ((prR l f t kk k 0 _ _).mpr ⟨?_⟩))
    rw [cond_dec, if_neg (by omega), cond_dec]
    rw [show k = l.length by omega, List.take_length] at hf ht
    rw [hf, ht]
    rw [rowsQ] at hq
    refine ite_intro (fun h => ?_) (fun h => ?_)
    · rw [if_pos h] at hq; exact hq
    · rw [if_neg h] at hq; exact hq
  | d + 1, k, f, t, hd, hf, ht => by
    have hk : k < l.length := by omega
    refine FOk.rnd (run_sound hm 60 ((prR l f t kk k (d + 1) _ _).mpr ⟨?_⟩))
    rw [cond_dec, if_pos (by omega), wrap_inc _ (by omega)]
    refine And.intro (fun _ => by omega) (And.intro (fun _ => by omega) (And.intro (fun _ => by omega) ?_))
    exact pr_loop l hl kk Q hq d (k + 1) _ _ (by omega) (by rw [foldl_takeQ _ _ hk, ← hf]; rfl) (by rw [foldl_takeQ _ _ hk, ← ht]; rfl)
theorem bPr : Try.f29.body.isSome = true := by kernel_rfl
theorem nPr (c : Cir) (k x : Int) : Nat.ble [(.agg [.v (.int .i64 c.fx), .v (.int .i64 c.ad), .v (.int .i64 c.ins), .x 0 [], .x 1 [], .x 2 [], .x 3 []] : SV), .v (.int .i64 k), .v (.int .i64 x)].length Try.f29.ntmps = true := by kernel_rfl
theorem pr_ok (b0 b1 : Bool) (c : Cir) (hc : c.ok) (k x : Int) (Q : SV → List HO → Prop) (hq : Q (.tup [.v (.int .i64 (rowsV c k x).1), .v (.int .i64 (rowsV c k x).2)]) []) : FnOk Try.prog 29 [.agg [.v (.int .i64 c.fx), .v (.int .i64 c.ad), .v (.int .i64 c.ins), .x 0 [], .x 1 [], .x 2 [], .x 3 []], .v (.int .i64 k), .v (.int .i64 x)] [.ext b0 (.s false 7 c.nodes.length (cN c.nodes)), .ext b1 (.s false 1 c.gates.length (cI c.gates)), .ext false (.s false 2 c.looks.length (cL c.looks)), .ext false (.s false 2 c.eqs.length (cK c.eqs))] Q := by
  refine fn_of_ok Try.func29 bPr ?_ ?_
  · exact nPr c k x
  have h1 := hc.n.2
  have h2 := coneQ_len c x
  refine run_sound hm 60 ((prS b0 b1 c k x _ _).mpr ⟨?_⟩)
  have no : ¬ (chkC c = 0 ∧ 0 ≤ x ∧ x < (c.nodes.length : Int)) → Q (.tup [.v (.int .i64 0), .v (.int .i64 0)]) [] := fun h => by
    rw [rowsV, if_neg h] at hq
    exact hq
  simp only [cond_dec, cond_not, cond_beq]
  refine lC_mk c hc (ite_intro (fun a1 => ite_intro (fun a2 => no (by omega)) (fun a2 => ite_intro (fun a3 => no (by omega)) (fun a3 => lC_mk c hc ?_))) (fun a1 => no (fun h => a1 h.1)))
  rw [rowsV, if_pos (by omega)] at hq
  exact FOk.loop ((coneQ c x).length + 1) (by kernel_rfl) (pr_loop (coneQ c x) (by omega) k Q hq (coneQ c x).length 0 _ _ (by omega) rfl rfl)
noncomputable def gPr : List SV → List HO → Option ((SV → List HO → Prop) → Prop)
  | [.agg [.v (.int .i64 fx), .v (.int .i64 ad), .v (.int .i64 ins), .x 0 [], .x 1 [], .x 2 [], .x 3 []], .v (.int .i64 k), .v (.int .i64 x)], [.ext _ (.s false 7 n0 c0), .ext _ (.s false 1 n1 c1), .ext false (.s false 2 n2 c2), .ext false (.s false 2 n3 c3)] =>
    some fun Q => lC fx ad ins n0 n1 n2 n3 c0 c1 c2 c3 fun c => Q (.tup [.v (.int .i64 (rowsV c k x).1), .v (.int .i64 (rowsV c k x).2)]) []
  | _, _ => none
theorem gPr_ok (args : List SV) (h : List HO) (tr : (SV → List HO → Prop) → Prop) (Q : SV → List HO → Prop) (hc : gPr args h = some tr) (ht : tr Q) : FnOk Try.prog 29 args h Q := by
  unfold gPr at hc
  split at hc
  · simp only [Option.some.injEq] at hc
    subst hc
    obtain ⟨c, rfl, rfl, rfl, ⟨rfl, e0⟩, ⟨rfl, e1⟩, ⟨rfl, e2⟩, ⟨rfl, e3⟩, hk, hq⟩ := ht.h
    exact FnOk.ac (pr_ok _ _ c hk _ _ Q hq) ⟨⟨rfl, rfl, rfl, rfl, e0⟩, ⟨rfl, rfl, rfl, rfl, e1⟩, ⟨rfl, rfl, rfl, rfl, e2⟩, ⟨rfl, rfl, rfl, rfl, e3⟩, trivial⟩
  · cases hc
noncomputable def K54 : Con Try.prog := K53.add 29 gPr gPr_ok
end Go.Proofs.Ytlmjdcbhpffanaa
/- The degree, by the document. -/
namespace Go.Pl
open Go.Sx
end Go.Pl
namespace Go.Proofs.Ytlmjdcbhpffanaa
open Go.Sx Go.Pl
set_option linter.unusedVariables false
set_option maxRecDepth 100000
noncomputable def K55 : Con Try.prog := K54
end Go.Proofs.Ytlmjdcbhpffanaa
/- Is a circuit right? By the document. -/
namespace Go.Pl
open Go.Sx
end Go.Pl
namespace Go.Proofs.Ytlmjdcbhpffanaa
open Go.Sx Go.Pl
set_option linter.unusedVariables false
set_option maxRecDepth 100000
noncomputable def K56 : Con Try.prog := K55
end Go.Proofs.Ytlmjdcbhpffanaa
/- Degree and Rows, by the document; great. -/
namespace Go.Pl
open Go.Sx
theorem chkC_zero {c : Cir} (h : chkC c = 0) : chkN c.nodes c.fx c.ad c.ins = 0 ∧ goodB c = true := by
  rw [chkC] at h
  split at h
  · rename_i h0
    refine ⟨h0, ?_⟩
    cases hg : goodB c with
    | true => rfl
    | false => rw [hg] at h; cases h
  · rename_i h0; exact absurd h h0
theorem goodB_all {c : Cir} (h : goodB c = true) : cntB c = true ∧ c.gates.any (fun n => !placeB c n) = false ∧ c.looks.any (fun x => !lookB c x) = false ∧ eqF c [] c.eqs = true ∧ degP c (degrees c.nodes) ≤ 8 := by
  simp only [goodB, Bool.and_eq_true, Bool.not_eq_true', decide_eq_true_eq] at h
  exact ⟨h.1.1.1.1, h.1.1.1.2, h.1.1.2, h.1.2, h.2⟩
end Go.Pl
namespace Go.Proofs.Ytlmjdcbhpffanaa
open Go.Sx Go.Pl
set_option linter.unusedVariables false
set_option maxRecDepth 100000
noncomputable def K57 : Con Try.prog := ((K56))
end Go.Proofs.Ytlmjdcbhpffanaa
/- Tables and sheets; elements copied as frozen memory. -/
namespace Go.Pl
open Go.Sx
def gT (l : List (List Nat)) (k : Nat) : List Nat := l.getD k []
noncomputable def tCell (x : List Nat) (_ : Nat) : Cell := .s false 4 x.length (cE x)
noncomputable def cT (l : List (List Nat)) : Nat → Nat → Cell := fun k j => tCell (gT l k) j
def dP : Int × Int × Int × Int := (0, 0, 0, 0)
def gP (l : List (Int × Int × Int × Int)) (k : Nat) : Int × Int × Int × Int := l.getD k dP
def pCell (x : Int × Int × Int × Int) (j : Nat) : Cell :=
  match j with
  | 0 => .v (.int .i64 x.1)
  | 1 => .v (.int .i64 x.2.1)
  | 2 => .v (.int .i64 x.2.2.1)
  | 3 => .v (.int .i64 x.2.2.2)
  | _ => .v undef
def cP (l : List (Int × Int × Int × Int)) : Nat → Nat → Cell := fun k j => pCell (gP l k) j
structure Sht where
  fx : List (List Nat)
  ad : List (List Nat)
  is : List (List Nat)
  cp : List (Int × Int × Int × Int)
def okT (l : List (List Nat)) : Prop := (∀ x ∈ l, (∀ v ∈ x, v < top) ∧ x.length * 32 ≤ 140737488351232) ∧ l.length * 24 ≤ 140737488351232
structure Sht.ok (s : Sht) : Prop where
  f : okT s.fx
  a : okT s.ad
  i : okT s.is
  c : (∀ x ∈ s.cp, i64 x.1 ∧ i64 x.2.1 ∧ i64 x.2.2.1 ∧ i64 x.2.2.2) ∧ s.cp.length * 32 ≤ 140737488351232
structure lT (n : Nat) (c : Nat → Nat → Cell) (k : List (List Nat) → Prop) : Prop where
  h : ∃ l : List (List Nat), n = l.length ∧ IsC n 1 c (cT l) ∧ okT l ∧ k l
theorem lT_mk {l : List (List Nat)} (h : okT l) {k : List (List Nat) → Prop} (hk : k l) : lT l.length (cT l) k := ⟨⟨l, rfl, IsC.refl _ _ _, h, hk⟩⟩
structure lS (n0 n1 n2 n3 : Nat) (c0 c1 c2 c3 : Nat → Nat → Cell) (k : Sht → Prop) : Prop where
  h : ∃ s : Sht, (n0 = s.fx.length ∧ IsC n0 1 c0 (cT s.fx)) ∧ (n1 = s.ad.length ∧ IsC n1 1 c1 (cT s.ad)) ∧ (n2 = s.is.length ∧ IsC n2 1 c2 (cT s.is)) ∧ (n3 = s.cp.length ∧ IsC n3 4 c3 (cP s.cp)) ∧ s.ok ∧ k s
theorem lS_mk (s : Sht) (hs : s.ok) {k : Sht → Prop} (h : k s) : lS s.fx.length s.ad.length s.is.length s.cp.length (cT s.fx) (cT s.ad) (cT s.is) (cP s.cp) k :=
  ⟨⟨s, ⟨rfl, IsC.refl _ _ _⟩, ⟨rfl, IsC.refl _ _ _⟩, ⟨rfl, IsC.refl _ _ _⟩, ⟨rfl, IsC.refl _ _ _⟩, hs, h⟩⟩
theorem cT_snoc {l : List (List Nat)} {k : Nat} (a : List Nat) (h : l.length = k) : IsC (k + 1) 1 (Ct.app k (.fn (cT l)) (.lit 1 [.s false 4 a.length (cE a)])).at (Ct.fn (cT (l ++ [a]))).at := by
  subst h
  exact ofL_snoc tCell [] 1 l a _ fun j hj => by
    match j, hj with
    | 0, _ => rfl
theorem gT_mem {l : List (List Nat)} {k : Nat} (h : k < l.length) : gT l k ∈ l := by
  rw [gT, List.getD_eq_getElem?_getD, List.getElem?_eq_getElem h]
  exact List.getElem_mem h
theorem take_gT {l : List (List Nat)} {k : Nat} (h : k < l.length) : l.take (k + 1) = l.take k ++ [gT l k] := by
  rw [List.take_add_one, List.getElem?_eq_getElem h, gT, List.getD_eq_getElem?_getD, List.getElem?_eq_getElem h]; rfl
theorem drop_gT {l : List (List Nat)} {k : Nat} (h : k < l.length) : l.drop k = gT l k :: l.drop (k + 1) := by
  rw [List.drop_eq_getElem_cons h, gT, List.getD_eq_getElem?_getD, List.getElem?_eq_getElem h]; rfl
theorem drop_gP {l : List (Int × Int × Int × Int)} {k : Nat} (h : k < l.length) : l.drop k = gP l k :: l.drop (k + 1) := by
  rw [List.drop_eq_getElem_cons h, gP, List.getD_eq_getElem?_getD, List.getElem?_eq_getElem h]; rfl
end Go.Pl
namespace Go.Proofs.Ytlmjdcbhpffanaa
open Go.Sx Go.Pl
set_option linter.unusedVariables false
set_option maxRecDepth 100000
theorem cex_ok (all : List Nat) (hb : all.length ≤ 4398046511104) (Q : SV → List HO → Prop) (hq : Q (.x 0 []) [.ext false (.s false 4 all.length (cE all))]) : FnOk Try.prog 36 [.x 0 []] [.ext false (.s false 4 all.length (cE all))] Q := by
  have h := FnOk.gc (r1 := .x 0 []) (h1 := [.ext false (.s false 4 all.length (cE all))]) rfl (FnOk.frz1 0 rfl (ce_ok all hb (fun r h' => r = .o 0 ∧ h' = [.rowc 56 4 all.length (.fn (cE all))]) ⟨rfl, rfl⟩))
  exact FnOk.mono h fun r h' hh => by rw [hh.1, hh.2]; exact hq
noncomputable def g_cex : List SV → List HO → Option ((SV → List HO → Prop) → Prop)
  | [.x 0 []], [.ext false (.s false 4 n c)] => some fun Q => lE n c fun l => Q (.x 0 []) [.ext false (.s false 4 l.length (cE l))]
  | _, _ => none
theorem g_cex_ok (args : List SV) (h : List HO) (tr : (SV → List HO → Prop) → Prop) (Q : SV → List HO → Prop) (hc : g_cex args h = some tr) (ht : tr Q) : FnOk Try.prog 36 args h Q := by
  unfold g_cex at hc
  split at hc
  · simp only [Option.some.injEq] at hc
    subst hc
    obtain ⟨l, rfl, he, hb, hv, hq⟩ := ht.h
    exact FnOk.ac (cex_ok l hb Q hq) ⟨⟨rfl, rfl, rfl, rfl, he⟩, trivial⟩
  · cases hc
noncomputable def K70a : Con Try.prog := K57.add 36 g_cex g_cex_ok
end Go.Proofs.Ytlmjdcbhpffanaa
/- A table as new memory. -/
namespace Go.Proofs.Ytlmjdcbhpffanaa
open Go.Sx Go.Pl
set_option linter.unusedVariables false
set_option maxRecDepth 100000
theorem tbS (l : List (List Nat)) (K : List It → St → Prop) (R : SV → List HO → Prop) : W (xwp Try.prog X K70a [] 60 (fxOf Try.f37 [] [⟨[0,1,0,1,1], [4,3,0], []⟩]) [] [.at []] ⟨argsS 0 [.x 0 []], [.ext false (.s false 1 l.length (cT l))]⟩ K R) = W (K [.at [0,1,0,1,1], .blk 0, .at [1,1,1]] (St.mk [(4, .v (vi64 0)), (3, .o 0), (0, .x 1 [])] [.rowc 44 1 0 (.lit 1 []), .ext false (.s false 1 (List.length l) (cT l))])) := by kernel_rfl
theorem tbR (l ls : List (List Nat)) (m k M : Nat) (K : List It → St → Prop) (R : SV → List HO → Prop) : W (xwp Try.prog X K70a [] 60 (fxOf Try.f37 [] [⟨[0,1,0,1,1], [4,3,0], []⟩]) [] (.at [0,0,1,0,1,1] :: .rnd [0,0,1,0,1,1] M :: [.blk 0, .at [1,1,1]]) ⟨[(4, .v (.int .i64 (k : Int))), (3, .o 0), (0, .x 1 [])], [.rowc 44 1 m (.fn (cT ls)), .ext false (.s false 1 l.length (cT l))]⟩ K R) = W (bif decide ((↑k : Int) < (↑(List.length l) : Int)) then (∀ M : Mem, (0 : Int) ≤ (↑k : Int) ∧ (↑k : Int) < (↑(List.length l) : Int)) ∧ (∀ M : Mem, k < List.length l) ∧ (∀ M : Mem, k < List.length l) ∧ lE (List.length (gT l k)) (cE (gT l k)) fun (l_1 : List Nat) => (∀ M : Mem, (m + 1) * 24 ≤ 140737488355328 ∧ m + 1 ≤ 140737488355328) ∧ K [.rnd [0,0,1,0,1,1] M, .blk 0, .at [1,1,1]] (St.mk [(4, .v (vi64 (IntKind.wrap .i64 ((↑k : Int) + (1 : Int))))), (3, .o 0), (0, .x 1 [])] [.rowc 44 1 (m + 1) (.app m (.fn (cT ls)) (.lit 1 [.s false 4 (List.length l_1) (cE l_1)])), .ext false (.s false 1 (List.length l) (cT l))]) else R (.o 0) [.rowc 44 1 m (.fn (cT ls))]) := by kernel_rfl
theorem tb_loop (l : List (List Nat)) (hl : okT l) (Q : SV → List HO → Prop) (hq : Q (.o 0) [.rowc 44 1 l.length (.fn (cT l))]) : ∀ (d k : Nat) (ls : List (List Nat)), k + d = l.length → ls = l.take k →
    FOk Try.prog Try.f37 Q (.rnd [0,0,1,0,1,1] (d + 1) :: [.blk 0, .at [1,1,1]]) ⟨[(4, .v (.int .i64 (k : Int))), (3, .o 0), (0, .x 1 [])], [.rowc 44 1 k (.fn (cT ls)), .ext false (.s false 1 l.length (cT l))]⟩
  | 0, k, ls, hd, he => by
    refine FOk.rnd (run_sound hm 60 ((tbR l ls k k 0 _ _).mpr ⟨?_⟩))
    rw [cond_dec, if_neg (by omega)]
    rw [show k = l.length by omega, List.take_length] at he
    rw [he, show k = l.length by omega]
    exact hq
  | d + 1, k, ls, hd, he => by
    have hk : k < l.length := by omega
    have h1 := hl.2
    obtain ⟨g0, g1⟩ := hl.1 _ (gT_mem hk)
    have hlen : ls.length = k := by rw [he, List.length_take]; omega
    refine FOk.rnd (run_sound hm 60 ((tbR l ls k k (d + 1) _ _).mpr ⟨?_⟩))
    rw [cond_dec, if_pos (by omega), wrap_inc _ (by omega)]
    refine And.intro (fun _ => by omega) (And.intro (fun _ => by omega) (And.intro (fun _ => by omega) ⟨⟨gT l k, rfl, IsC.refl _ _ _, by omega, g0, And.intro (fun _ => by omega) ?_⟩⟩))
    exact FOk.cv (tb_loop l hl Q hq d (k + 1) (ls ++ [gT l k]) (by omega) (by rw [he, take_gT hk])) ⟨⟨rfl, rfl, rfl, cT_snoc _ hlen⟩, HE.refl _, trivial⟩
theorem bTb : Try.f37.body.isSome = true := by kernel_rfl
theorem nTb : Nat.ble [SV.x 0 []].length Try.f37.ntmps = true := by kernel_rfl
theorem tb_ok (l : List (List Nat)) (hl : okT l) (Q : SV → List HO → Prop) (hq : Q (.x 0 []) [.ext false (.s false 1 l.length (cT l))]) : FnOk Try.prog 37 [.x 0 []] [.ext false (.s false 1 l.length (cT l))] Q := by
  have h0 : FnOk Try.prog 37 [.x 0 []] [.ext false (.s false 1 l.length (cT l))] (fun r h' => r = .o 0 ∧ h' = [.rowc 44 1 l.length (.fn (cT l))]) := by
    refine fn_of_ok Try.func37 bTb ?_ ?_
    · exact nTb
    refine run_sound hm 60 ((tbS l _ _).mpr ⟨?_⟩)
    exact FOk.loop (l.length + 1) (by kernel_rfl) (FOk.cv (tb_loop l hl _ ⟨rfl, rfl⟩ l.length 0 [] (by omega) rfl) ⟨⟨rfl, rfl, rfl, fun k hk => by omega⟩, HE.refl _, trivial⟩)
  have h := FnOk.gc (r1 := .x 0 []) (h1 := [.ext false (.s false 1 l.length (cT l))]) rfl (FnOk.frz1 0 rfl h0)
  exact FnOk.mono h fun r h' hh => by rw [hh.1, hh.2]; exact hq
noncomputable def gTb : List SV → List HO → Option ((SV → List HO → Prop) → Prop)
  | [.x 0 []], [.ext false (.s false 1 n c)] => some fun Q => lT n c fun l => Q (.x 0 []) [.ext false (.s false 1 l.length (cT l))]
  | _, _ => none
theorem gTb_ok (args : List SV) (h : List HO) (tr : (SV → List HO → Prop) → Prop) (Q : SV → List HO → Prop) (hc : gTb args h = some tr) (ht : tr Q) : FnOk Try.prog 37 args h Q := by
  unfold gTb at hc
  split at hc
  · simp only [Option.some.injEq] at hc
    subst hc
    obtain ⟨l, rfl, he, hl, hq⟩ := ht.h
    exact FnOk.ac (tb_ok l hl Q hq) ⟨⟨rfl, rfl, rfl, rfl, he⟩, trivial⟩
  · cases hc
noncomputable def K70b : Con Try.prog := K70a.add 37 gTb gTb_ok
end Go.Proofs.Ytlmjdcbhpffanaa
/- A sheet as new memory. -/
namespace Go.Proofs.Ytlmjdcbhpffanaa
open Go.Sx Go.Pl
set_option linter.unusedVariables false
set_option maxRecDepth 100000
theorem csS (s : Sht) (K : List It → St → Prop) (R : SV → List HO → Prop) : W (xwp Try.prog X K70b [] 60 (fxOf Try.f21 [] []) [] [.at []] ⟨argsS 0 [.agg [.x 0 [], .x 1 [], .x 2 [], .x 3 []]], [.ext false (.s false 1 s.fx.length (cT s.fx)), .ext false (.s false 1 s.ad.length (cT s.ad)), .ext false (.s false 1 s.is.length (cT s.is)), .ext false (.s false 4 s.cp.length (cP s.cp))]⟩ K R) = W (lT s.1.length (cT s.1) fun (l : List (List Nat)) => lT s.2.length (cT s.2) fun (l_1 : List (List Nat)) => lT s.3.length (cT s.3) fun (l_2 : List (List Nat)) => (∀ M : Mem, (0 + List.length s.4) * 32 ≤ 140737488355328 ∧ 0 + List.length s.4 ≤ 140737488355328) ∧ (∀ M : Mem, 0 + 4 ≤ 4) ∧ R (.agg [.x 0 [], .x 1 [], .x 2 [], .o 3]) [.ext false (.s false 1 (List.length l) (cT l)), .ext false (.s false 1 (List.length l_1) (cT l_1)), .ext false (.s false 1 (List.length l_2) (cT l_2)), .rowc 103 4 (0 + List.length s.4) (.app 0 (.lit 4 []) (.fn (cP s.4)))]) := by kernel_rfl
theorem bCs : Try.f21.body.isSome = true := by kernel_rfl
theorem nCs : Nat.ble [(.agg [.x 0 [], .x 1 [], .x 2 [], .x 3 []] : SV)].length Try.f21.ntmps = true := by kernel_rfl
theorem cs_ok (s : Sht) (hs : s.ok) (Q : SV → List HO → Prop) (hq : Q (.agg [.x 0 [], .x 1 [], .x 2 [], .x 3 []]) [.ext false (.s false 1 s.fx.length (cT s.fx)), .ext false (.s false 1 s.ad.length (cT s.ad)), .ext false (.s false 1 s.is.length (cT s.is)), .ext false (.s false 4 s.cp.length (cP s.cp))]) : FnOk Try.prog 21 [.agg [.x 0 [], .x 1 [], .x 2 [], .x 3 []]] [.ext false (.s false 1 s.fx.length (cT s.fx)), .ext false (.s false 1 s.ad.length (cT s.ad)), .ext false (.s false 1 s.is.length (cT s.is)), .ext false (.s false 4 s.cp.length (cP s.cp))] Q := by
  have h0 : FnOk Try.prog 21 [.agg [.x 0 [], .x 1 [], .x 2 [], .x 3 []]] [.ext false (.s false 1 s.fx.length (cT s.fx)), .ext false (.s false 1 s.ad.length (cT s.ad)), .ext false (.s false 1 s.is.length (cT s.is)), .ext false (.s false 4 s.cp.length (cP s.cp))] (fun r h' => r = .agg [.x 0 [], .x 1 [], .x 2 [], .o 3] ∧ HEs h' [.ext false (.s false 1 s.fx.length (cT s.fx)), .ext false (.s false 1 s.ad.length (cT s.ad)), .ext false (.s false 1 s.is.length (cT s.is)), .rowc 103 4 s.cp.length (.fn (cP s.cp))]) := by
    refine fn_of_ok Try.func21 bCs ?_ ?_
    · exact nCs
    have h1 := hs.c.2
    refine run_sound hm 60 ((csS s _ _).mpr ⟨?_⟩)
    refine lT_mk hs.f (lT_mk hs.a (lT_mk hs.i (And.intro (fun _ => by omega) (And.intro (fun _ => by omega) ?_))))
    exact ⟨rfl, HE.refl _, HE.refl _, HE.refl _, ⟨rfl, rfl, Nat.zero_add _, fun k hk j hj => appC_ge _ _ _ (Nat.zero_le _)⟩, trivial⟩
  have h1 := FnOk.frz1 3 (T := 103) (sz := 4) (n := s.cp.length) (c := .fn (cP s.cp)) (by kernel_rfl) (FnOk.eqv h0)
  have h2 := FnOk.gc (r1 := .agg [.x 0 [], .x 1 [], .x 2 [], .x 3 []]) (h1 := [.ext false (.s false 1 s.fx.length (cT s.fx)), .ext false (.s false 1 s.ad.length (cT s.ad)), .ext false (.s false 1 s.is.length (cT s.is)), .ext false (.s false 4 s.cp.length (cP s.cp))]) (by kernel_rfl) h1
  exact FnOk.mono h2 fun r h' hh => by rw [hh.1, hh.2]; exact hq
noncomputable def gCs : List SV → List HO → Option ((SV → List HO → Prop) → Prop)
  | [.agg [.x 0 [], .x 1 [], .x 2 [], .x 3 []]], [.ext false (.s false 1 n0 c0), .ext false (.s false 1 n1 c1), .ext false (.s false 1 n2 c2), .ext false (.s false 4 n3 c3)] =>
    some fun Q => lS n0 n1 n2 n3 c0 c1 c2 c3 fun s => Q (.agg [.x 0 [], .x 1 [], .x 2 [], .x 3 []]) [.ext false (.s false 1 s.fx.length (cT s.fx)), .ext false (.s false 1 s.ad.length (cT s.ad)), .ext false (.s false 1 s.is.length (cT s.is)), .ext false (.s false 4 s.cp.length (cP s.cp))]
  | _, _ => none
theorem gCs_ok (args : List SV) (h : List HO) (tr : (SV → List HO → Prop) → Prop) (Q : SV → List HO → Prop) (hc : gCs args h = some tr) (ht : tr Q) : FnOk Try.prog 21 args h Q := by
  unfold gCs at hc
  split at hc
  · simp only [Option.some.injEq] at hc
    subst hc
    obtain ⟨s, ⟨rfl, e0⟩, ⟨rfl, e1⟩, ⟨rfl, e2⟩, ⟨rfl, e3⟩, hs, hq⟩ := ht.h
    exact FnOk.ac (cs_ok s hs Q hq) ⟨⟨rfl, rfl, rfl, rfl, e0⟩, ⟨rfl, rfl, rfl, rfl, e1⟩, ⟨rfl, rfl, rfl, rfl, e2⟩, ⟨rfl, rfl, rfl, rfl, e3⟩, trivial⟩
  · cases hc
noncomputable def K70 : Con Try.prog := K70b.add 21 gCs gCs_ok
end Go.Proofs.Ytlmjdcbhpffanaa
/- A cell's value. -/
namespace Go.Pl
open Go.Sx
def tabS (s : Sht) (kd : Int) : List (List Nat) := if kd = 2 then s.fx else if kd = 3 then s.ad else if kd = 4 then s.is else []
def atT (t : List (List Nat)) (co ro : Int) : Nat := if co < 0 ∨ ro < 0 then 0 else gE (gT t co.toNat) ro.toNat
def atS (s : Sht) (kd co ro : Int) : Nat := atT (tabS s kd) co ro
theorem gT_out {t : List (List Nat)} {k : Nat} (h : t.length ≤ k) : gT t k = [] := by rw [gT, List.getD_eq_getElem?_getD, List.getElem?_eq_none h]; rfl
theorem gE_out {t : List Nat} {k : Nat} (h : t.length ≤ k) : gE t k = 0 := by rw [gE, List.getD_eq_getElem?_getD, List.getElem?_eq_none h]; rfl
theorem atT_neg {t : List (List Nat)} {co ro : Int} (h : co < 0 ∨ ro < 0) : atT t co ro = 0 := if_pos h
theorem atT_col {t : List (List Nat)} {co ro : Int} (h : (t.length : Int) ≤ co) : atT t co ro = 0 := by
  rw [atT]; split
  · rfl
  · rw [gT_out (by omega)]; exact gE_out (Nat.zero_le _)
theorem atT_row {t : List (List Nat)} {co ro : Int} (h : ((gT t co.toNat).length : Int) ≤ ro) : atT t co ro = 0 := by
  rw [atT]; split
  · rfl
  · exact gE_out (by omega)
theorem atT_in {t : List (List Nat)} {co ro : Int} (h : ¬ co < 0) (h2 : ¬ ro < 0) : atT t co ro = gE (gT t co.toNat) ro.toNat := if_neg (by omega)
theorem okT_gT {t : List (List Nat)} (h : okT t) (k : Nat) : ∀ v ∈ gT t k, v < top := by
  by_cases hk : k < t.length
  · exact (h.1 _ (gT_mem hk)).1
  · rw [gT_out (by omega)]; intro v hv; cases hv
theorem atT_top {t : List (List Nat)} (h : okT t) (co ro : Int) : atT t co ro < top := by
  rw [atT]; split
  · simp only [top]; omega
  · exact gE_top (okT_gT h _) _
theorem tabS_ok {s : Sht} (h : s.ok) (kd : Int) : okT (tabS s kd) := by
  rw [tabS]
  split
  · exact h.f
  split
  · exact h.a
  split
  · exact h.i
  · exact ⟨fun x hx => (by cases hx), by decide⟩
theorem atS_top {s : Sht} (h : s.ok) (kd co ro : Int) : atS s kd co ro < top := atT_top (tabS_ok h kd) co ro
end Go.Pl
namespace Go.Proofs.Ytlmjdcbhpffanaa
open Go.Sx Go.Pl
set_option linter.unusedVariables false
set_option maxRecDepth 100000
theorem at2 (b0 b1 b2 b3 : Bool) (s : Sht) (kd co ro : Int) (K : List It → St → Prop) (R : SV → List HO → Prop) : W (xwp Try.prog X K70 [] 60 (fxOf Try.f18 [] []) [.ld (.x 0 [])] [.at []] ⟨argsS 0 [.agg [.x 0 [], .x 1 [], .x 2 [], .x 3 []], .v (.int .i64 kd), .v (.int .i64 co), .v (.int .i64 ro)], [.ext b0 (.s false 1 s.fx.length (cT s.fx)), .ext b1 (.s false 1 s.ad.length (cT s.ad)), .ext b2 (.s false 1 s.is.length (cT s.is)), .ext b3 (.s false 4 s.cp.length (cP s.cp))]⟩ K R) = W ((∀ M : Mem, (match decide ([kd] = [(2 : Int)]) with | true => some (SV.x 0 []) | false => match decide ([kd] = [(3 : Int)]) with | true => some (SV.x 1 []) | false => match decide ([kd] = [(4 : Int)]) with | true => some (SV.x 2 []) | false => none) = some (SV.x 0 [])) ∧ bif decide (co < (0 : Int)) then (∀ M : Mem, 4 ≤ 4) ∧ R (SV.agg [SV.v (vu64 0), SV.v (vu64 0), SV.v (vu64 0), SV.v (vu64 0)]) [] else bif decide ((↑s.1.length : Int) ≤ co) then (∀ M : Mem, 4 ≤ 4) ∧ R (SV.agg [SV.v (vu64 0), SV.v (vu64 0), SV.v (vu64 0), SV.v (vu64 0)]) [] else bif decide (ro < (0 : Int)) then (∀ M : Mem, 4 ≤ 4) ∧ R (SV.agg [SV.v (vu64 0), SV.v (vu64 0), SV.v (vu64 0), SV.v (vu64 0)]) [] else (∀ M : Mem, (0 : Int) ≤ co ∧ co < (↑s.1.length : Int)) ∧ (∀ M : Mem, Int.toNat co < List.length s.1) ∧ (∀ M : Mem, Int.toNat co < List.length s.1) ∧ bif decide ((↑(List.length (gT s.1 (Int.toNat co))) : Int) ≤ ro) then (∀ M : Mem, 4 ≤ 4) ∧ R (SV.agg [SV.v (vu64 0), SV.v (vu64 0), SV.v (vu64 0), SV.v (vu64 0)]) [] else (∀ M : Mem, (0 : Int) ≤ co ∧ co < (↑s.1.length : Int)) ∧ (∀ M : Mem, Int.toNat co < List.length s.1) ∧ (∀ M : Mem, Int.toNat co < List.length s.1) ∧ (∀ M : Mem, (0 : Int) ≤ ro ∧ ro < (↑(List.length (gT s.1 (Int.toNat co))) : Int)) ∧ (∀ M : Mem, Int.toNat co < List.length s.1) ∧ (∀ M : Mem, Int.toNat ro < List.length (gT s.1 (Int.toNat co))) ∧ (∀ M : Mem, 0 + 4 ≤ 4) ∧ R ((eS (gE (gT s.1 (Int.toNat co)) (Int.toNat ro)))) []) := by kernel_rfl
theorem at3 (b0 b1 b2 b3 : Bool) (s : Sht) (kd co ro : Int) (K : List It → St → Prop) (R : SV → List HO → Prop) : W (xwp Try.prog X K70 [] 60 (fxOf Try.f18 [] []) [.ld (.x 1 [])] [.at []] ⟨argsS 0 [.agg [.x 0 [], .x 1 [], .x 2 [], .x 3 []], .v (.int .i64 kd), .v (.int .i64 co), .v (.int .i64 ro)], [.ext b0 (.s false 1 s.fx.length (cT s.fx)), .ext b1 (.s false 1 s.ad.length (cT s.ad)), .ext b2 (.s false 1 s.is.length (cT s.is)), .ext b3 (.s false 4 s.cp.length (cP s.cp))]⟩ K R) = W ((∀ M : Mem, (match decide ([kd] = [(2 : Int)]) with | true => some (SV.x 0 []) | false => match decide ([kd] = [(3 : Int)]) with | true => some (SV.x 1 []) | false => match decide ([kd] = [(4 : Int)]) with | true => some (SV.x 2 []) | false => none) = some (SV.x 1 [])) ∧ bif decide (co < (0 : Int)) then (∀ M : Mem, 4 ≤ 4) ∧ R (SV.agg [SV.v (vu64 0), SV.v (vu64 0), SV.v (vu64 0), SV.v (vu64 0)]) [] else bif decide ((↑s.2.length : Int) ≤ co) then (∀ M : Mem, 4 ≤ 4) ∧ R (SV.agg [SV.v (vu64 0), SV.v (vu64 0), SV.v (vu64 0), SV.v (vu64 0)]) [] else bif decide (ro < (0 : Int)) then (∀ M : Mem, 4 ≤ 4) ∧ R (SV.agg [SV.v (vu64 0), SV.v (vu64 0), SV.v (vu64 0), SV.v (vu64 0)]) [] else (∀ M : Mem, (0 : Int) ≤ co ∧ co < (↑s.2.length : Int)) ∧ (∀ M : Mem, Int.toNat co < List.length s.2) ∧ (∀ M : Mem, Int.toNat co < List.length s.2) ∧ bif decide ((↑(List.length (gT s.2 (Int.toNat co))) : Int) ≤ ro) then (∀ M : Mem, 4 ≤ 4) ∧ R (SV.agg [SV.v (vu64 0), SV.v (vu64 0), SV.v (vu64 0), SV.v (vu64 0)]) [] else (∀ M : Mem, (0 : Int) ≤ co ∧ co < (↑s.2.length : Int)) ∧ (∀ M : Mem, Int.toNat co < List.length s.2) ∧ (∀ M : Mem, Int.toNat co < List.length s.2) ∧ (∀ M : Mem, (0 : Int) ≤ ro ∧ ro < (↑(List.length (gT s.2 (Int.toNat co))) : Int)) ∧ (∀ M : Mem, Int.toNat co < List.length s.2) ∧ (∀ M : Mem, Int.toNat ro < List.length (gT s.2 (Int.toNat co))) ∧ (∀ M : Mem, 0 + 4 ≤ 4) ∧ R ((eS (gE (gT s.2 (Int.toNat co)) (Int.toNat ro)))) []) := by kernel_rfl
theorem at4 (b0 b1 b2 b3 : Bool) (s : Sht) (kd co ro : Int) (K : List It → St → Prop) (R : SV → List HO → Prop) : W (xwp Try.prog X K70 [] 60 (fxOf Try.f18 [] []) [.ld (.x 2 [])] [.at []] ⟨argsS 0 [.agg [.x 0 [], .x 1 [], .x 2 [], .x 3 []], .v (.int .i64 kd), .v (.int .i64 co), .v (.int .i64 ro)], [.ext b0 (.s false 1 s.fx.length (cT s.fx)), .ext b1 (.s false 1 s.ad.length (cT s.ad)), .ext b2 (.s false 1 s.is.length (cT s.is)), .ext b3 (.s false 4 s.cp.length (cP s.cp))]⟩ K R) = W ((∀ M : Mem, (match decide ([kd] = [(2 : Int)]) with | true => some (SV.x 0 []) | false => match decide ([kd] = [(3 : Int)]) with | true => some (SV.x 1 []) | false => match decide ([kd] = [(4 : Int)]) with | true => some (SV.x 2 []) | false => none) = some (SV.x 2 [])) ∧ bif decide (co < (0 : Int)) then (∀ M : Mem, 4 ≤ 4) ∧ R (SV.agg [SV.v (vu64 0), SV.v (vu64 0), SV.v (vu64 0), SV.v (vu64 0)]) [] else bif decide ((↑s.3.length : Int) ≤ co) then (∀ M : Mem, 4 ≤ 4) ∧ R (SV.agg [SV.v (vu64 0), SV.v (vu64 0), SV.v (vu64 0), SV.v (vu64 0)]) [] else bif decide (ro < (0 : Int)) then (∀ M : Mem, 4 ≤ 4) ∧ R (SV.agg [SV.v (vu64 0), SV.v (vu64 0), SV.v (vu64 0), SV.v (vu64 0)]) [] else (∀ M : Mem, (0 : Int) ≤ co ∧ co < (↑s.3.length : Int)) ∧ (∀ M : Mem, Int.toNat co < List.length s.3) ∧ (∀ M : Mem, Int.toNat co < List.length s.3) ∧ bif decide ((↑(List.length (gT s.3 (Int.toNat co))) : Int) ≤ ro) then (∀ M : Mem, 4 ≤ 4) ∧ R (SV.agg [SV.v (vu64 0), SV.v (vu64 0), SV.v (vu64 0), SV.v (vu64 0)]) [] else (∀ M : Mem, (0 : Int) ≤ co ∧ co < (↑s.3.length : Int)) ∧ (∀ M : Mem, Int.toNat co < List.length s.3) ∧ (∀ M : Mem, Int.toNat co < List.length s.3) ∧ (∀ M : Mem, (0 : Int) ≤ ro ∧ ro < (↑(List.length (gT s.3 (Int.toNat co))) : Int)) ∧ (∀ M : Mem, Int.toNat co < List.length s.3) ∧ (∀ M : Mem, Int.toNat ro < List.length (gT s.3 (Int.toNat co))) ∧ (∀ M : Mem, 0 + 4 ≤ 4) ∧ R ((eS (gE (gT s.3 (Int.toNat co)) (Int.toNat ro)))) []) := by kernel_rfl
theorem at0 (b0 b1 b2 b3 : Bool) (s : Sht) (kd co ro : Int) (K : List It → St → Prop) (R : SV → List HO → Prop) : W (xwp Try.prog X K70 [] 60 (fxOf Try.f18 [] []) [.lx []] [.at []] ⟨argsS 0 [.agg [.x 0 [], .x 1 [], .x 2 [], .x 3 []], .v (.int .i64 kd), .v (.int .i64 co), .v (.int .i64 ro)], [.ext b0 (.s false 1 s.fx.length (cT s.fx)), .ext b1 (.s false 1 s.ad.length (cT s.ad)), .ext b2 (.s false 1 s.is.length (cT s.is)), .ext b3 (.s false 4 s.cp.length (cP s.cp))]⟩ K R) = W ((∀ M : Mem, mhas [[(2 : Int)], [(3 : Int)], [(4 : Int)]] [kd] = false) ∧ (∀ M : Mem, 4 ≤ 4) ∧ R (.agg [.v (vu64 0), .v (vu64 0), .v (vu64 0), .v (vu64 0)]) []) := by kernel_rfl
theorem bAt2 : Try.f18.body.isSome = true := by kernel_rfl
theorem nAt2 (kd co ro : Int) : Nat.ble [(.agg [.x 0 [], .x 1 [], .x 2 [], .x 3 []] : SV), .v (.int .i64 kd), .v (.int .i64 co), .v (.int .i64 ro)].length Try.f18.ntmps = true := by kernel_rfl
theorem at_ok (b0 b1 b2 b3 : Bool) (s : Sht) (kd co ro : Int) (Q : SV → List HO → Prop) (hq : Q (eS (atS s kd co ro)) []) : FnOk Try.prog 18 [.agg [.x 0 [], .x 1 [], .x 2 [], .x 3 []], .v (.int .i64 kd), .v (.int .i64 co), .v (.int .i64 ro)] [.ext b0 (.s false 1 s.fx.length (cT s.fx)), .ext b1 (.s false 1 s.ad.length (cT s.ad)), .ext b2 (.s false 1 s.is.length (cT s.is)), .ext b3 (.s false 4 s.cp.length (cP s.cp))] Q := by
  refine fn_of_ok Try.func18 bAt2 ?_ ?_
  · exact nAt2 kd co ro
  rw [atS] at hq
  have fin : ∀ t : List (List Nat), Q (eS (atT t co ro)) [] → (bif decide (co < (0 : Int)) then (∀ (M : Mem), 4 ≤ 4) ∧ Q (.agg [.v (vu64 0), .v (vu64 0), .v (vu64 0), .v (vu64 0)]) [] else bif decide ((t.length : Int) ≤ co) then (∀ (M : Mem), 4 ≤ 4) ∧ Q (.agg [.v (vu64 0), .v (vu64 0), .v (vu64 0), .v (vu64 0)]) [] else bif decide (ro < (0 : Int)) then (∀ (M : Mem), 4 ≤ 4) ∧ Q (.agg [.v (vu64 0), .v (vu64 0), .v (vu64 0), .v (vu64 0)]) [] else (∀ (M : Mem), (0 : Int) ≤ co ∧ co < (t.length : Int)) ∧ (∀ (M : Mem), Int.toNat co < t.length) ∧ (∀ (M : Mem), Int.toNat co < t.length) ∧ bif decide (((gT t (Int.toNat co)).length : Int) ≤ ro) then (∀ (M : Mem), 4 ≤ 4) ∧ Q (.agg [.v (vu64 0), .v (vu64 0), .v (vu64 0), .v (vu64 0)]) [] else (∀ (M : Mem), (0 : Int) ≤ co ∧ co < (t.length : Int)) ∧ (∀ (M : Mem), Int.toNat co < t.length) ∧ (∀ (M : Mem), Int.toNat co < t.length) ∧ (∀ (M : Mem), (0 : Int) ≤ ro ∧ ro < ((gT t (Int.toNat co)).length : Int)) ∧ (∀ (M : Mem), Int.toNat co < t.length) ∧ (∀ (M : Mem), Int.toNat ro < (gT t (Int.toNat co)).length) ∧ (∀ (M : Mem), 0 + 4 ≤ 4) ∧ Q (eS (gE (gT t (Int.toNat co)) (Int.toNat ro))) []) := by
    intro t hq
    simp only [cond_dec, ← eS_zero]
    refine ite_intro (fun h => ?_) (fun h => ite_intro (fun h2 => ?_) (fun h2 => ite_intro (fun h3 => ?_) (fun h3 => ?_)))
    · rw [atT_neg (.inl h)] at hq; exact ⟨fun _ => by omega, hq⟩
    · rw [atT_col h2] at hq; exact ⟨fun _ => by omega, hq⟩
    · rw [atT_neg (.inr h3)] at hq; exact ⟨fun _ => by omega, hq⟩
    refine And.intro (fun _ => by omega) (And.intro (fun _ => by omega) (And.intro (fun _ => by omega) (ite_intro (fun h4 => ?_) (fun h4 => ?_))))
    · rw [atT_row h4] at hq; exact ⟨fun _ => by omega, hq⟩
    · rw [atT_in h h3] at hq
      exact And.intro (fun _ => by omega) (And.intro (fun _ => by omega) (And.intro (fun _ => by omega) (And.intro (fun _ => by omega) (And.intro (fun _ => by omega) (And.intro (fun _ => by omega) (And.intro (fun _ => by omega) hq))))))
  by_cases h2 : kd = 2
  · subst h2
    refine run_sound hm 60 ((at2 b0 b1 b2 b3 s 2 co ro _ _).mpr ⟨And.intro (fun _ => rfl) ?_⟩)
    rw [show tabS s 2 = s.fx from rfl] at hq
    exact fin s.fx hq
  by_cases h3 : kd = 3
  · subst h3
    refine run_sound hm 60 ((at3 b0 b1 b2 b3 s 3 co ro _ _).mpr ⟨And.intro (fun _ => rfl) ?_⟩)
    rw [show tabS s 3 = s.ad from rfl] at hq
    exact fin s.ad hq
  by_cases h4 : kd = 4
  · subst h4
    refine run_sound hm 60 ((at4 b0 b1 b2 b3 s 4 co ro _ _).mpr ⟨And.intro (fun _ => rfl) ?_⟩)
    rw [show tabS s 4 = s.is from rfl] at hq
    exact fin s.is hq
  refine run_sound hm 60 ((at0 b0 b1 b2 b3 s kd co ro _ _).mpr ⟨And.intro (fun _ => by simp [mhas, h2, h3, h4]) (And.intro (fun _ => by omega) ?_)⟩)
  have e : atT [] co ro = 0 := by
    rw [atT]; split
    · rfl
    · exact gE_out (Nat.zero_le _)
  rw [tabS, if_neg h2, if_neg h3, if_neg h4, e] at hq
  rw [← eS_zero]; exact hq
noncomputable def gAt2 : List SV → List HO → Option ((SV → List HO → Prop) → Prop)
  | [.agg [.x 0 [], .x 1 [], .x 2 [], .x 3 []], .v (.int .i64 kd), .v (.int .i64 co), .v (.int .i64 ro)], [.ext _ (.s false 1 n0 c0), .ext _ (.s false 1 n1 c1), .ext _ (.s false 1 n2 c2), .ext _ (.s false 4 n3 c3)] =>
    some fun Q => lS n0 n1 n2 n3 c0 c1 c2 c3 fun s => Q (eS (atS s kd co ro)) []
  | _, _ => none
theorem gAt2_ok (args : List SV) (h : List HO) (tr : (SV → List HO → Prop) → Prop) (Q : SV → List HO → Prop) (hc : gAt2 args h = some tr) (ht : tr Q) : FnOk Try.prog 18 args h Q := by
  unfold gAt2 at hc
  split at hc
  · simp only [Option.some.injEq] at hc
    subst hc
    obtain ⟨s, ⟨rfl, e0⟩, ⟨rfl, e1⟩, ⟨rfl, e2⟩, ⟨rfl, e3⟩, hs, hq⟩ := ht.h
    exact FnOk.ac (at_ok _ _ _ _ s _ _ _ Q hq) ⟨⟨rfl, rfl, rfl, rfl, e0⟩, ⟨rfl, rfl, rfl, rfl, e1⟩, ⟨rfl, rfl, rfl, rfl, e2⟩, ⟨rfl, rfl, rfl, rfl, e3⟩, trivial⟩
  · cases hc
noncomputable def K71 : Con Try.prog := K70.add 18 gAt2 gAt2_ok
end Go.Proofs.Ytlmjdcbhpffanaa
/- Columns that are too long. -/
namespace Go.Pl
open Go.Sx
def uC (u : Int) : Nat → Nat → Cell := fun _ _ => .v (.int .i64 u)
structure lU (ck : Nat → Nat → Cell) (k : Int → Prop) : Prop where
  h : ∃ u : Int, IsC 1 1 ck (uC u) ∧ k u
theorem lU_mk (u : Int) {k : Int → Prop} (h : k u) : lU (lc 1 [.v (vi64 u)]) k := ⟨⟨u, fun i hi j hj => by
  have : i = 0 := by omega
  have : j = 0 := by omega
  subst i j
  rfl, h⟩⟩
def longB (u : Int) (x : List Nat) : Bool := decide (u < (x.length : Int))
theorem idxF_dropT {p : List Nat → Bool} {l : List (List Nat)} {k : Nat} (h : k < l.length) : idxF p k (l.drop k) = if p (gT l k) then (k : Int) else idxF p (k + 1) (l.drop (k + 1)) := by
  rw [List.drop_eq_getElem_cons h, idxF, gT, List.getD_eq_getElem?_getD, List.getElem?_eq_getElem h]; rfl
theorem idxF_dropP {p : Int × Int × Int × Int → Bool} {l : List (Int × Int × Int × Int)} {k : Nat} (h : k < l.length) : idxF p k (l.drop k) = if p (gP l k) then (k : Int) else idxF p (k + 1) (l.drop (k + 1)) := by
  rw [List.drop_eq_getElem_cons h, idxF, gP, List.getD_eq_getElem?_getD, List.getElem?_eq_getElem h]; rfl
end Go.Pl
namespace Go.Proofs.Ytlmjdcbhpffanaa
open Go.Sx Go.Pl
set_option linter.unusedVariables false
set_option maxRecDepth 100000
end Go.Proofs.Ytlmjdcbhpffanaa
/- Columns that are too long: the first. -/
namespace Go.Proofs.Ytlmjdcbhpffanaa
open Go.Sx Go.Pl
set_option linter.unusedVariables false
set_option maxRecDepth 100000
theorem ilgS (b : Bool) (l : List (List Nat)) (u : Int) (K : List It → St → Prop) (R : SV → List HO → Prop) : W (xwp Try.prog X K71 [(43, [])] 60 (fxOf Try.f68 [] [⟨[0,1,0,1],[8,7,0,1],[]⟩]) [] [.at []] ⟨argsS 0 [.x 0 [], .fn (.func 43) [] [.x 1 []]], [.ext b (.s false 1 l.length (cT l)), .ext true (.s true 1 1 (uC u))]⟩ K R) = W (K [.at [0,1,0,1], .blk 0, .at [1,1]] (St.mk [(8, .v (vi64 0)), (7, .v (vi64 (↑(List.length l) : Int))), (0, .x 0 []), (1, SV.fn (Fn.func 43) [] [.x 1 []])] [.ext b (.s false 1 (List.length l) (cT l)), .ext true (.s true 1 1 (uC u))])) := by kernel_rfl
theorem ilgR (b : Bool) (l : List (List Nat)) (u : Int) (k M : Nat) (K : List It → St → Prop) (R : SV → List HO → Prop) : W (xwp Try.prog X K71 [(43, [])] 60 (fxOf Try.f68 [] [⟨[0,1,0,1],[8,7,0,1],[]⟩]) [] (.at [0,0,1,0,1] :: .rnd [0,0,1,0,1] M :: [.blk 0, .at [1,1]]) ⟨[(8, .v (.int .i64 (k : Int))), (7, .v (.int .i64 (l.length : Int))), (0, .x 0 []), (1, .fn (.func 43) [] [.x 1 []])], [.ext b (.s false 1 l.length (cT l)), .ext true (.s true 1 1 (uC u))]⟩ K R) = W (bif decide ((↑k : Int) < (↑(List.length l) : Int)) then (∀ M : Mem, (0 : Int) ≤ (↑k : Int) ∧ (↑k : Int) < (↑(List.length l) : Int)) ∧ (∀ M : Mem, k < List.length l) ∧ (∀ M : Mem, k < List.length l) ∧ (∀ M : Mem, 0 < 1) ∧ bif decide (u < (↑(List.length (gT l k)) : Int)) then R (.v (vi64 (↑k : Int))) [] else K [.rnd [0,0,1,0,1] M, .blk 0, .at [1,1]] (St.mk [(8, .v (vi64 (IntKind.wrap .i64 ((↑k : Int) + (1 : Int))))), (7, .v (vi64 (↑(List.length l) : Int))), (0, .x 0 []), (1, SV.fn (Fn.func 43) [] [.x 1 []])] [.ext b (.s false 1 (List.length l) (cT l)), .ext true (.s true 1 1 (uC u))]) else R (.v (vi64 (-1))) []) := by kernel_rfl
theorem ilg_loop (b : Bool) (l : List (List Nat)) (u : Int) (hb : l.length ≤ 17592186043904) (Q : SV → List HO → Prop) : ∀ (d k : Nat), k + d = l.length → Q (.v (.int .i64 (idxF (longB u) k (l.drop k)))) [] →
    FOk Try.prog Try.f68 Q (.rnd [0,0,1,0,1] (d + 1) :: [.blk 0, .at [1,1]]) ⟨[(8, .v (.int .i64 (k : Int))), (7, .v (.int .i64 (l.length : Int))), (0, .x 0 []), (1, .fn (.func 43) [] [.x 1 []])], [.ext b (.s false 1 l.length (cT l)), .ext true (.s true 1 1 (uC u))]⟩
  | 0, k, hd, hq => by
    refine FOk.rnd (run_sound hm 60 ((ilgR b l u k 0 _ _).mpr ⟨?_⟩))
    rw [cond_dec, if_neg (by omega)]
    rw [show k = l.length by omega, List.drop_length] at hq
    exact hq
  | d + 1, k, hd, hq => by
    have hk : k < l.length := by omega
    refine FOk.rnd (run_sound hm 60 ((ilgR b l u k (d + 1) _ _).mpr ⟨?_⟩))
    rw [cond_dec, if_pos (by omega), wrap_inc _ (by omega)]
    rw [idxF_dropT hk, longB] at hq
    simp only [cond_dec, forall_const]
    repeat' (first | refine And.intro (by omega) ?_ | refine ite_intro (fun h => ?_) (fun h => ?_))
    · rw [decide_eq_true h] at hq; exact hq
    · rw [decide_eq_false h] at hq; exact ilg_loop b l u hb Q d (k + 1) (by omega) hq
theorem bIlg : Try.f68.body.isSome = true := by kernel_rfl
theorem nIlg : Nat.ble [SV.x 0 [], .fn (.func 43) [] [.x 1 []]].length Try.f68.ntmps = true := by kernel_rfl
theorem ilg_ok (b : Bool) (l : List (List Nat)) (u : Int) (hb : l.length ≤ 17592186043904) (Q : SV → List HO → Prop) (hq : Q (.v (.int .i64 (idxF (longB u) 0 l))) []) : FnOk Try.prog 68 [.x 0 [], .fn (.func 43) [] [.x 1 []]] [.ext b (.s false 1 l.length (cT l)), .ext true (.s true 1 1 (uC u))] Q := by
  refine fn_of_ok Try.func68 bIlg ?_ ?_
  · exact nIlg
  refine run_sound hm 60 ((ilgS b l u _ _).mpr ⟨?_⟩)
  exact FOk.loop (l.length + 1) (by kernel_rfl) (ilg_loop b l u hb Q l.length 0 (by omega) hq)
noncomputable def gIlg : List SV → List HO → Option ((SV → List HO → Prop) → Prop)
  | [.x 0 [], .fn (.func 43) [] [.x 1 []]], [.ext _ (.s false 1 n c), .ext true (.s true 1 1 ck)] => some fun Q => lT n c fun l => lU ck fun u => Q (.v (.int .i64 (idxF (longB u) 0 l))) []
  | _, _ => none
theorem gIlg_ok (args : List SV) (h : List HO) (tr : (SV → List HO → Prop) → Prop) (Q : SV → List HO → Prop) (hc : gIlg args h = some tr) (ht : tr Q) : FnOk Try.prog 68 args h Q := by
  unfold gIlg at hc
  split at hc
  · simp only [Option.some.injEq] at hc
    subst hc
    obtain ⟨l, rfl, he, hb, hk⟩ := ht.h
    obtain ⟨u, e1, hq⟩ := hk.h
    have := hb.2
    exact FnOk.ac (ilg_ok _ l u (by omega) Q hq) ⟨⟨rfl, rfl, rfl, rfl, he⟩, ⟨rfl, rfl, rfl, rfl, e1⟩, trivial⟩
  · cases hc
noncomputable def K72 : Con Try.prog := K71.add 68 gIlg gIlg_ok
end Go.Proofs.Ytlmjdcbhpffanaa
/- Is a cell's place wrong? With what the function has caught. -/
namespace Go.Pl
open Go.Sx
def badB (n : Nat) (u x y : Int) : Bool := decide (x < 0 ∨ (n : Int) ≤ x ∨ y < 0 ∨ u ≤ y)
def badP (n : Nat) (u : Int) (x : Int × Int × Int × Int) : Bool := badB n u x.1 x.2.1 || badB n u x.2.2.1 x.2.2.2
end Go.Pl
namespace Go.Proofs.Ytlmjdcbhpffanaa
open Go.Sx Go.Pl
set_option linter.unusedVariables false
set_option maxRecDepth 100000
theorem bdS (fx ad ins u : Int) (n0 n1 n2 n3 : Nat) (c0 c1 c2 c3 : Nat → Nat → Cell) (x y : Int) (K : List It → St → Prop) (R : SV → List HO → Prop) : W (xwp Try.prog X K72 [] 60 (fxM 6 Try.f46 [] []) [] [.at []] ⟨argsS 0 [.agg [.v (.int .i64 x), .v (.int .i64 y)], .p 0 0, .p 1 0], [.cells [.v (.int .i64 fx), .v (.int .i64 ad), .v (.int .i64 ins), .x 2 [], .x 3 [], .x 4 [], .x 5 []] 27, .cells [.v (.int .i64 u)] 3, .ext false (.s false 7 n0 c0), .ext false (.s false 1 n1 c1), .ext false (.s false 2 n2 c2), .ext false (.s false 2 n3 c3)]⟩ K R) = W (bif decide (x < (0 : Int)) then R (.v (.bool true)) [.cells [.v (vi64 fx), .v (vi64 ad), .v (vi64 ins), .x 2 [], .x 3 [], .x 4 [], .x 5 []] 27, .cells [.v (vi64 u)] 3, .ext false (.s false 7 n0 c0), .ext false (.s false 1 n1 c1), .ext false (.s false 2 n2 c2), .ext false (.s false 2 n3 c3)] else bif decide ((↑n3 : Int) ≤ x) then R (.v (.bool true)) [.cells [.v (vi64 fx), .v (vi64 ad), .v (vi64 ins), .x 2 [], .x 3 [], .x 4 [], .x 5 []] 27, .cells [.v (vi64 u)] 3, .ext false (.s false 7 n0 c0), .ext false (.s false 1 n1 c1), .ext false (.s false 2 n2 c2), .ext false (.s false 2 n3 c3)] else bif decide (y < (0 : Int)) then R (.v (.bool true)) [.cells [.v (vi64 fx), .v (vi64 ad), .v (vi64 ins), .x 2 [], .x 3 [], .x 4 [], .x 5 []] 27, .cells [.v (vi64 u)] 3, .ext false (.s false 7 n0 c0), .ext false (.s false 1 n1 c1), .ext false (.s false 2 n2 c2), .ext false (.s false 2 n3 c3)] else R (.v (.bool (decide (u ≤ y)))) [.cells [.v (vi64 fx), .v (vi64 ad), .v (vi64 ins), .x 2 [], .x 3 [], .x 4 [], .x 5 []] 27, .cells [.v (vi64 u)] 3, .ext false (.s false 7 n0 c0), .ext false (.s false 1 n1 c1), .ext false (.s false 2 n2 c2), .ext false (.s false 2 n3 c3)]) := by kernel_rfl
theorem bBd : Try.f46.body.isSome = true := by kernel_rfl
theorem nBd (x y : Int) : Nat.ble ([.agg [.v (.int .i64 x), .v (.int .i64 y)], .p 0 0, .p 1 0] : List SV).length Try.f46.ntmps = true := by kernel_rfl
theorem bd_ok (fx ad ins u : Int) (n0 n1 n2 n3 : Nat) (c0 c1 c2 c3 : Nat → Nat → Cell) (x y : Int) (Q : SV → List HO → Prop) (hq : Q (.v (.bool (badB n3 u x y))) [.cells [.v (.int .i64 fx), .v (.int .i64 ad), .v (.int .i64 ins), .x 2 [], .x 3 [], .x 4 [], .x 5 []] 27, .cells [.v (.int .i64 u)] 3, .ext false (.s false 7 n0 c0), .ext false (.s false 1 n1 c1), .ext false (.s false 2 n2 c2), .ext false (.s false 2 n3 c3)]) : FnOkM Try.prog 6 46 [.agg [.v (.int .i64 x), .v (.int .i64 y)], .p 0 0, .p 1 0] [.cells [.v (.int .i64 fx), .v (.int .i64 ad), .v (.int .i64 ins), .x 2 [], .x 3 [], .x 4 [], .x 5 []] 27, .cells [.v (.int .i64 u)] 3, .ext false (.s false 7 n0 c0), .ext false (.s false 1 n1 c1), .ext false (.s false 2 n2 c2), .ext false (.s false 2 n3 c3)] Q := by
  refine fn_of_ok Try.func46 bBd ?_ ?_
  · exact nBd x y
  refine run_soundM hm 60 ((bdS fx ad ins u n0 n1 n2 n3 c0 c1 c2 c3 x y _ _).mpr ⟨?_⟩)
  simp only [cond_dec]
  refine ite_intro (fun h => ?_) (fun h => ite_intro (fun h2 => ?_) (fun h2 => ite_intro (fun h3 => ?_) (fun h3 => ?_)))
  · rw [badB, decide_eq_true (.inl h)] at hq; exact hq
  · rw [badB, decide_eq_true (.inr (.inl h2))] at hq; exact hq
  · rw [badB, decide_eq_true (.inr (.inr (.inl h3)))] at hq; exact hq
  · rw [show decide (u ≤ y) = badB n3 u x y from decide_eq_decide.2 (by omega)]; exact hq
noncomputable def gBd : List SV → List HO → Option ((SV → List HO → Prop) → Prop)
  | [.agg [.v (.int .i64 x), .v (.int .i64 y)], .p 0 0, .p 1 0], [.cells [.v (.int .i64 fx), .v (.int .i64 ad), .v (.int .i64 ins), .x 2 [], .x 3 [], .x 4 [], .x 5 []] 27, .cells [.v (.int .i64 u)] 3, .ext false (.s false 7 n0 c0), .ext false (.s false 1 n1 c1), .ext false (.s false 2 n2 c2), .ext false (.s false 2 n3 c3)] => some fun Q => Q (.v (.bool (badB n3 u x y))) [.cells [.v (.int .i64 fx), .v (.int .i64 ad), .v (.int .i64 ins), .x 2 [], .x 3 [], .x 4 [], .x 5 []] 27, .cells [.v (.int .i64 u)] 3, .ext false (.s false 7 n0 c0), .ext false (.s false 1 n1 c1), .ext false (.s false 2 n2 c2), .ext false (.s false 2 n3 c3)]
  | _, _ => none
theorem gBd_ok (args : List SV) (h : List HO) (tr : (SV → List HO → Prop) → Prop) (Q : SV → List HO → Prop) (hc : gBd args h = some tr) (ht : tr Q) : FnOkM Try.prog h.length 46 args h Q := by
  unfold gBd at hc
  split at hc
  · simp only [Option.some.injEq] at hc
    subst hc
    exact bd_ok _ _ _ _ _ _ _ _ _ _ _ _ _ _ Q ht
  · cases hc
noncomputable def K73a : Con Try.prog := K72.addW 46 gBd gBd_ok
end Go.Proofs.Ytlmjdcbhpffanaa
/- Is a copy wrong? -/
namespace Go.Proofs.Ytlmjdcbhpffanaa
open Go.Sx Go.Pl
set_option linter.unusedVariables false
set_option maxRecDepth 100000
theorem bd4S (fx ad ins u : Int) (n0 n1 n2 n3 : Nat) (c0 c1 c2 c3 : Nat → Nat → Cell) (x y z t : Int) (K : List It → St → Prop) (R : SV → List HO → Prop) : W (xwp Try.prog X K73a [] 60 (fxM 7 Try.f48 [] []) [] [.at []] ⟨argsS 0 [.agg [.v (.int .i64 x), .v (.int .i64 y), .v (.int .i64 z), .v (.int .i64 t)], .p 0 0], [.cells [.fn (.func 46) [] [.p 1 0, .p 2 0]] 109, .cells [.v (.int .i64 fx), .v (.int .i64 ad), .v (.int .i64 ins), .x 3 [], .x 4 [], .x 5 [], .x 6 []] 27, .cells [.v (.int .i64 u)] 3, .ext false (.s false 7 n0 c0), .ext false (.s false 1 n1 c1), .ext false (.s false 2 n2 c2), .ext false (.s false 2 n3 c3)]⟩ K R) = W (bif badB n3 u x y then R (.v (.bool true)) [.cells [SV.fn (Fn.func 46) [] [.p 1 0, .p 2 0]] 109, .cells [.v (vi64 fx), .v (vi64 ad), .v (vi64 ins), .x 3 [], .x 4 [], .x 5 [], .x 6 []] 27, .cells [.v (vi64 u)] 3, .ext false (.s false 7 n0 c0), .ext false (.s false 1 n1 c1), .ext false (.s false 2 n2 c2), .ext false (.s false 2 n3 c3)] else R (.v (.bool (badB n3 u z t))) [.cells [SV.fn (Fn.func 46) [] [.p 1 0, .p 2 0]] 109, .cells [.v (vi64 fx), .v (vi64 ad), .v (vi64 ins), .x 3 [], .x 4 [], .x 5 [], .x 6 []] 27, .cells [.v (vi64 u)] 3, .ext false (.s false 7 n0 c0), .ext false (.s false 1 n1 c1), .ext false (.s false 2 n2 c2), .ext false (.s false 2 n3 c3)]) := by kernel_rfl
theorem bBd4 : Try.f48.body.isSome = true := by kernel_rfl
theorem nBd4 (x y z t : Int) : Nat.ble ([.agg [.v (.int .i64 x), .v (.int .i64 y), .v (.int .i64 z), .v (.int .i64 t)], .p 0 0] : List SV).length Try.f48.ntmps = true := by kernel_rfl
theorem bd4_ok (fx ad ins u : Int) (n0 n1 n2 n3 : Nat) (c0 c1 c2 c3 : Nat → Nat → Cell) (x y z t : Int) (Q : SV → List HO → Prop) (hq : Q (.v (.bool (badB n3 u x y || badB n3 u z t))) [.cells [.fn (.func 46) [] [.p 1 0, .p 2 0]] 109, .cells [.v (.int .i64 fx), .v (.int .i64 ad), .v (.int .i64 ins), .x 3 [], .x 4 [], .x 5 [], .x 6 []] 27, .cells [.v (.int .i64 u)] 3, .ext false (.s false 7 n0 c0), .ext false (.s false 1 n1 c1), .ext false (.s false 2 n2 c2), .ext false (.s false 2 n3 c3)]) : FnOkM Try.prog 7 48 [.agg [.v (.int .i64 x), .v (.int .i64 y), .v (.int .i64 z), .v (.int .i64 t)], .p 0 0] [.cells [.fn (.func 46) [] [.p 1 0, .p 2 0]] 109, .cells [.v (.int .i64 fx), .v (.int .i64 ad), .v (.int .i64 ins), .x 3 [], .x 4 [], .x 5 [], .x 6 []] 27, .cells [.v (.int .i64 u)] 3, .ext false (.s false 7 n0 c0), .ext false (.s false 1 n1 c1), .ext false (.s false 2 n2 c2), .ext false (.s false 2 n3 c3)] Q := by
  refine fn_of_ok Try.func48 bBd4 ?_ ?_
  · exact nBd4 x y z t
  refine run_soundM hm 60 ((bd4S fx ad ins u n0 n1 n2 n3 c0 c1 c2 c3 x y z t _ _).mpr ⟨?_⟩)
  refine cond_intro (fun h => ?_) (fun h => ?_)
  · rw [h] at hq; exact hq
  · rw [h] at hq; exact hq
noncomputable def gBd4 : List SV → List HO → Option ((SV → List HO → Prop) → Prop)
  | [.agg [.v (.int .i64 x), .v (.int .i64 y), .v (.int .i64 z), .v (.int .i64 t)], .p 0 0], [.cells [.fn (.func 46) [] [.p 1 0, .p 2 0]] 109, .cells [.v (.int .i64 fx), .v (.int .i64 ad), .v (.int .i64 ins), .x 3 [], .x 4 [], .x 5 [], .x 6 []] 27, .cells [.v (.int .i64 u)] 3, .ext false (.s false 7 n0 c0), .ext false (.s false 1 n1 c1), .ext false (.s false 2 n2 c2), .ext false (.s false 2 n3 c3)] => some fun Q => Q (.v (.bool (badB n3 u x y || badB n3 u z t))) [.cells [.fn (.func 46) [] [.p 1 0, .p 2 0]] 109, .cells [.v (.int .i64 fx), .v (.int .i64 ad), .v (.int .i64 ins), .x 3 [], .x 4 [], .x 5 [], .x 6 []] 27, .cells [.v (.int .i64 u)] 3, .ext false (.s false 7 n0 c0), .ext false (.s false 1 n1 c1), .ext false (.s false 2 n2 c2), .ext false (.s false 2 n3 c3)]
  | _, _ => none
theorem gBd4_ok (args : List SV) (h : List HO) (tr : (SV → List HO → Prop) → Prop) (Q : SV → List HO → Prop) (hc : gBd4 args h = some tr) (ht : tr Q) : FnOkM Try.prog h.length 48 args h Q := by
  unfold gBd4 at hc
  split at hc
  · simp only [Option.some.injEq] at hc
    subst hc
    exact bd4_ok _ _ _ _ _ _ _ _ _ _ _ _ _ _ _ _ Q ht
  · cases hc
noncomputable def K73b : Con Try.prog := K73a.addW 48 gBd4 gBd4_ok
end Go.Proofs.Ytlmjdcbhpffanaa
/- The first copy that is wrong. -/
namespace Go.Pl
open Go.Sx
structure lP (n : Nat) (c : Nat → Nat → Cell) (k : List (Int × Int × Int × Int) → Prop) : Prop where
  h : ∃ l : List (Int × Int × Int × Int), n = l.length ∧ IsC n 4 c (cP l) ∧ l.length ≤ 17592186043904 ∧ k l
theorem lP_mk (l : List (Int × Int × Int × Int)) (h : l.length ≤ 17592186043904) {k : List (Int × Int × Int × Int) → Prop} (hk : k l) : lP l.length (cP l) k := ⟨⟨l, rfl, IsC.refl _ _ _, h, hk⟩⟩
end Go.Pl
namespace Go.Proofs.Ytlmjdcbhpffanaa
open Go.Sx Go.Pl
set_option linter.unusedVariables false
set_option maxRecDepth 100000
theorem ibdS (fx ad ins u : Int) (n0 n1 n2 n3 : Nat) (c0 c1 c2 c3 : Nat → Nat → Cell) (l : List (Int × Int × Int × Int)) (K : List It → St → Prop) (R : SV → List HO → Prop) : W (xwp Try.prog X K73b [] 60 (fxM 8 Try.f69 [] [⟨[0,1,0,1],[8,7,0,1],[]⟩]) [] [.at []] ⟨argsS 0 [.x 0 [], .fn (.func 48) [] [.p 1 0]], [.ext false (.s false 4 l.length (cP l)), .cells [.fn (.func 46) [] [.p 2 0, .p 3 0]] 109, .cells [.v (.int .i64 fx), .v (.int .i64 ad), .v (.int .i64 ins), .x 4 [], .x 5 [], .x 6 [], .x 7 []] 27, .cells [.v (.int .i64 u)] 3, .ext false (.s false 7 n0 c0), .ext false (.s false 1 n1 c1), .ext false (.s false 2 n2 c2), .ext false (.s false 2 n3 c3)]⟩ K R) = W (K [.at [0,1,0,1], .blk 0, .at [1,1]] (St.mk [(8, .v (vi64 0)), (7, .v (vi64 (↑(List.length l) : Int))), (0, .x 0 []), (1, SV.fn (Fn.func 48) [] [.p 1 0])] [.ext false (.s false 4 (List.length l) (cP l)), .cells [SV.fn (Fn.func 46) [] [.p 2 0, .p 3 0]] 109, .cells [.v (vi64 fx), .v (vi64 ad), .v (vi64 ins), .x 4 [], .x 5 [], .x 6 [], .x 7 []] 27, .cells [.v (vi64 u)] 3, .ext false (.s false 7 n0 c0), .ext false (.s false 1 n1 c1), .ext false (.s false 2 n2 c2), .ext false (.s false 2 n3 c3)])) := by kernel_rfl
theorem ibdR (fx ad ins u : Int) (n0 n1 n2 n3 : Nat) (c0 c1 c2 c3 : Nat → Nat → Cell) (l : List (Int × Int × Int × Int)) (k M : Nat) (K : List It → St → Prop) (R : SV → List HO → Prop) : W (xwp Try.prog X K73b [] 60 (fxM 8 Try.f69 [] [⟨[0,1,0,1],[8,7,0,1],[]⟩]) [] (.at [0,0,1,0,1] :: .rnd [0,0,1,0,1] M :: [.blk 0, .at [1,1]]) ⟨[(8, .v (.int .i64 (k : Int))), (7, .v (.int .i64 (l.length : Int))), (0, .x 0 []), (1, .fn (.func 48) [] [.p 1 0])], [.ext false (.s false 4 l.length (cP l)), .cells [.fn (.func 46) [] [.p 2 0, .p 3 0]] 109, .cells [.v (.int .i64 fx), .v (.int .i64 ad), .v (.int .i64 ins), .x 4 [], .x 5 [], .x 6 [], .x 7 []] 27, .cells [.v (.int .i64 u)] 3, .ext false (.s false 7 n0 c0), .ext false (.s false 1 n1 c1), .ext false (.s false 2 n2 c2), .ext false (.s false 2 n3 c3)]⟩ K R) = W (bif decide ((↑k : Int) < (↑(List.length l) : Int)) then (∀ M : Mem, (0 : Int) ≤ (↑k : Int) ∧ (↑k : Int) < (↑(List.length l) : Int)) ∧ (∀ M : Mem, k < List.length l) ∧ bif badB n3 u (gP l k).1 (gP l k).2.1 || badB n3 u (gP l k).2.2.1 (gP l k).2.2.2 then R (.v (vi64 (↑k : Int))) [.ext false (.s false 4 (List.length l) (cP l)), .cells [SV.fn (Fn.func 46) [] [.p 2 0, .p 3 0]] 109, .cells [.v (vi64 fx), .v (vi64 ad), .v (vi64 ins), .x 4 [], .x 5 [], .x 6 [], .x 7 []] 27, .cells [.v (vi64 u)] 3, .ext false (.s false 7 n0 c0), .ext false (.s false 1 n1 c1), .ext false (.s false 2 n2 c2), .ext false (.s false 2 n3 c3)] else K [.rnd [0,0,1,0,1] M, .blk 0, .at [1,1]] (St.mk [(8, .v (vi64 (IntKind.wrap .i64 ((↑k : Int) + (1 : Int))))), (7, .v (vi64 (↑(List.length l) : Int))), (0, .x 0 []), (1, SV.fn (Fn.func 48) [] [.p 1 0])] [.ext false (.s false 4 (List.length l) (cP l)), .cells [SV.fn (Fn.func 46) [] [.p 2 0, .p 3 0]] 109, .cells [.v (vi64 fx), .v (vi64 ad), .v (vi64 ins), .x 4 [], .x 5 [], .x 6 [], .x 7 []] 27, .cells [.v (vi64 u)] 3, .ext false (.s false 7 n0 c0), .ext false (.s false 1 n1 c1), .ext false (.s false 2 n2 c2), .ext false (.s false 2 n3 c3)]) else R (.v (vi64 (-1))) [.ext false (.s false 4 (List.length l) (cP l)), .cells [SV.fn (Fn.func 46) [] [.p 2 0, .p 3 0]] 109, .cells [.v (vi64 fx), .v (vi64 ad), .v (vi64 ins), .x 4 [], .x 5 [], .x 6 [], .x 7 []] 27, .cells [.v (vi64 u)] 3, .ext false (.s false 7 n0 c0), .ext false (.s false 1 n1 c1), .ext false (.s false 2 n2 c2), .ext false (.s false 2 n3 c3)]) := by kernel_rfl
theorem ibd_loop (fx ad ins u : Int) (n0 n1 n2 n3 : Nat) (c0 c1 c2 c3 : Nat → Nat → Cell) (l : List (Int × Int × Int × Int)) (hl : l.length ≤ 17592186043904) (Q : SV → List HO → Prop) : ∀ (d k : Nat), k + d = l.length → Q (.v (.int .i64 (idxF (badP n3 u) k (l.drop k)))) [.ext false (.s false 4 l.length (cP l)), .cells [.fn (.func 46) [] [.p 2 0, .p 3 0]] 109, .cells [.v (.int .i64 fx), .v (.int .i64 ad), .v (.int .i64 ins), .x 4 [], .x 5 [], .x 6 [], .x 7 []] 27, .cells [.v (.int .i64 u)] 3, .ext false (.s false 7 n0 c0), .ext false (.s false 1 n1 c1), .ext false (.s false 2 n2 c2), .ext false (.s false 2 n3 c3)] →
    FOkM Try.prog 8 Try.f69 Q (.rnd [0,0,1,0,1] (d + 1) :: [.blk 0, .at [1,1]]) ⟨[(8, .v (.int .i64 (k : Int))), (7, .v (.int .i64 (l.length : Int))), (0, .x 0 []), (1, .fn (.func 48) [] [.p 1 0])], [.ext false (.s false 4 l.length (cP l)), .cells [.fn (.func 46) [] [.p 2 0, .p 3 0]] 109, .cells [.v (.int .i64 fx), .v (.int .i64 ad), .v (.int .i64 ins), .x 4 [], .x 5 [], .x 6 [], .x 7 []] 27, .cells [.v (.int .i64 u)] 3, .ext false (.s false 7 n0 c0), .ext false (.s false 1 n1 c1), .ext false (.s false 2 n2 c2), .ext false (.s false 2 n3 c3)]⟩
  | 0, k, hd, hq => by
    refine FOk.rnd (run_soundM hm 60 ((ibdR fx ad ins u n0 n1 n2 n3 c0 c1 c2 c3 l k 0 _ _).mpr ⟨?_⟩))
    rw [cond_dec, if_neg (by omega)]
    rw [show k = l.length by omega, List.drop_length] at hq
    exact hq
  | d + 1, k, hd, hq => by
    have hk : k < l.length := by omega
    refine FOk.rnd (run_soundM hm 60 ((ibdR fx ad ins u n0 n1 n2 n3 c0 c1 c2 c3 l k (d + 1) _ _).mpr ⟨?_⟩))
    rw [cond_dec, if_pos (by omega), wrap_inc _ (by omega)]
    rw [idxF_dropP hk, badP] at hq
    refine And.intro (fun _ => by omega) (And.intro (fun _ => by omega) (cond_intro (fun h => ?_) (fun h => ?_)))
    · rw [h] at hq; exact hq
    · rw [h] at hq; exact ibd_loop fx ad ins u n0 n1 n2 n3 c0 c1 c2 c3 l hl Q d (k + 1) (by omega) hq
theorem bIbd : Try.f69.body.isSome = true := by kernel_rfl
theorem nIbd : Nat.ble ([.x 0 [], .fn (.func 48) [] [.p 1 0]] : List SV).length Try.f69.ntmps = true := by kernel_rfl
theorem ibd_ok (fx ad ins u : Int) (n0 n1 n2 n3 : Nat) (c0 c1 c2 c3 : Nat → Nat → Cell) (l : List (Int × Int × Int × Int)) (hl : l.length ≤ 17592186043904) (Q : SV → List HO → Prop) (hq : Q (.v (.int .i64 (idxF (badP n3 u) 0 l))) [.ext false (.s false 4 l.length (cP l)), .cells [.fn (.func 46) [] [.p 2 0, .p 3 0]] 109, .cells [.v (.int .i64 fx), .v (.int .i64 ad), .v (.int .i64 ins), .x 4 [], .x 5 [], .x 6 [], .x 7 []] 27, .cells [.v (.int .i64 u)] 3, .ext false (.s false 7 n0 c0), .ext false (.s false 1 n1 c1), .ext false (.s false 2 n2 c2), .ext false (.s false 2 n3 c3)]) : FnOkM Try.prog 8 69 [.x 0 [], .fn (.func 48) [] [.p 1 0]] [.ext false (.s false 4 l.length (cP l)), .cells [.fn (.func 46) [] [.p 2 0, .p 3 0]] 109, .cells [.v (.int .i64 fx), .v (.int .i64 ad), .v (.int .i64 ins), .x 4 [], .x 5 [], .x 6 [], .x 7 []] 27, .cells [.v (.int .i64 u)] 3, .ext false (.s false 7 n0 c0), .ext false (.s false 1 n1 c1), .ext false (.s false 2 n2 c2), .ext false (.s false 2 n3 c3)] Q := by
  refine fn_of_ok Try.func69 bIbd ?_ ?_
  · exact nIbd
  refine run_soundM hm 60 ((ibdS fx ad ins u n0 n1 n2 n3 c0 c1 c2 c3 l _ _).mpr ⟨?_⟩)
  exact FOk.loop (l.length + 1) (by kernel_rfl) (ibd_loop fx ad ins u n0 n1 n2 n3 c0 c1 c2 c3 l hl Q l.length 0 (by omega) hq)
noncomputable def gIbd : List SV → List HO → Option ((SV → List HO → Prop) → Prop)
  | [.x 0 [], .fn (.func 48) [] [.p 1 0]], [.ext false (.s false 4 n c), .cells [.fn (.func 46) [] [.p 2 0, .p 3 0]] 109, .cells [.v (.int .i64 fx), .v (.int .i64 ad), .v (.int .i64 ins), .x 4 [], .x 5 [], .x 6 [], .x 7 []] 27, .cells [.v (.int .i64 u)] 3, .ext false (.s false 7 n0 c0), .ext false (.s false 1 n1 c1), .ext false (.s false 2 n2 c2), .ext false (.s false 2 n3 c3)] => some fun Q => lP n c fun l => Q (.v (.int .i64 (idxF (badP n3 u) 0 l))) [.ext false (.s false 4 l.length (cP l)), .cells [.fn (.func 46) [] [.p 2 0, .p 3 0]] 109, .cells [.v (.int .i64 fx), .v (.int .i64 ad), .v (.int .i64 ins), .x 4 [], .x 5 [], .x 6 [], .x 7 []] 27, .cells [.v (.int .i64 u)] 3, .ext false (.s false 7 n0 c0), .ext false (.s false 1 n1 c1), .ext false (.s false 2 n2 c2), .ext false (.s false 2 n3 c3)]
  | _, _ => none
theorem gIbd_ok (args : List SV) (h : List HO) (tr : (SV → List HO → Prop) → Prop) (Q : SV → List HO → Prop) (hc : gIbd args h = some tr) (ht : tr Q) : FnOkM Try.prog h.length 69 args h Q := by
  unfold gIbd at hc
  split at hc
  · simp only [Option.some.injEq] at hc
    subst hc
    obtain ⟨l, rfl, he, hl, hq⟩ := ht.h
    exact FnOk.ac (ibd_ok _ _ _ _ _ _ _ _ _ _ _ _ l hl Q hq) ⟨⟨rfl, rfl, rfl, rfl, he⟩, HE.refl _, HE.refl _, HE.refl _, HE.refl _, HE.refl _, HE.refl _, HE.refl _, trivial⟩
  · cases hc
noncomputable def K73 : Con Try.prog := ((K73b.addW 69 gIbd gIbd_ok).setW 47).setW 44
end Go.Proofs.Ytlmjdcbhpffanaa
/- Does a sheet fit? -/
namespace Go.Pl
open Go.Sx
def wrT (n u : Int) (t : List (List Nat)) : Bool := !((t.length : Int) == n) || t.any (longB u)
def wrP (n : Nat) (u : Int) (l : List (Int × Int × Int × Int)) : Bool := decide (256 < (l.length : Int)) || l.any (badP n u)
def fitV (c : Cir) (k : Int) (s : Sht) : Int := if chkC c ≠ 0 then chkC c else if k < 3 then 60 else if 5 < k then 60 else if wrT c.fx (usN k) s.fx then 130 else if wrT c.ad (usN k) s.ad then 130 else if wrT c.ins (usN k) s.is then 130 else if wrP c.eqs.length (usN k) s.cp then 130 else 0
structure lF (fx ad ins : Int) (n0 n1 n2 n3 m0 m1 m2 m3 : Nat) (c0 c1 c2 c3 d0 d1 d2 d3 : Nat → Nat → Cell) (k : Cir → Sht → Prop) : Prop where
  h : lC fx ad ins n0 n1 n2 n3 c0 c1 c2 c3 fun c => lS m0 m1 m2 m3 d0 d1 d2 d3 fun s => k c s
theorem lF_mk (c : Cir) (hc : c.ok) (s : Sht) (hs : s.ok) {k : Cir → Sht → Prop} (h : k c s) : lF c.fx c.ad c.ins c.nodes.length c.gates.length c.looks.length c.eqs.length s.fx.length s.ad.length s.is.length s.cp.length (cN c.nodes) (cI c.gates) (cL c.looks) (cK c.eqs) (cT s.fx) (cT s.ad) (cT s.is) (cP s.cp) k := ⟨lC_mk c hc (lS_mk s hs h)⟩
end Go.Pl
namespace Go.Proofs.Ytlmjdcbhpffanaa
open Go.Sx Go.Pl
set_option linter.unusedVariables false
set_option maxRecDepth 100000
theorem fiS (c : Cir) (s : Sht) (k : Int) (K : List It → St → Prop) (R : SV → List HO → Prop) : W (xwp Try.prog X K73 [(32, []), (44, []), (45, []), (47, [])] 60 (fxOf Try.f20 [] []) [] [.at []] ⟨argsS 0 [.agg [.v (.int .i64 c.fx), .v (.int .i64 c.ad), .v (.int .i64 c.ins), .x 0 [], .x 1 [], .x 2 [], .x 3 []], .v (.int .i64 k), .agg [.x 4 [], .x 5 [], .x 6 [], .x 7 []]], [.ext false (.s false 7 c.nodes.length (cN c.nodes)), .ext false (.s false 1 c.gates.length (cI c.gates)), .ext false (.s false 2 c.looks.length (cL c.looks)), .ext false (.s false 2 c.eqs.length (cK c.eqs)), .ext false (.s false 1 s.fx.length (cT s.fx)), .ext false (.s false 1 s.ad.length (cT s.ad)), .ext false (.s false 1 s.is.length (cT s.is)), .ext false (.s false 4 s.cp.length (cP s.cp))]⟩ K R) = W (lC c.1 c.2 c.3 c.4.length c.5.length c.6.length c.7.length (cN c.4) (cI c.5) (cL c.6) (cK c.7) fun (c_1 : Cir) => bif !chkC c_1 == (0 : Int) then R (.v (vi64 (chkC c_1))) [] else bif decide (k < (3 : Int)) then R (.v (vi64 60)) [] else bif decide ((5 : Int) < k) then R (.v (vi64 60)) [] else (∀ M : Mem, 0 + 1 ≤ 1) ∧ (∀ M : Mem, 0 + 1 ≤ 1) ∧ (∀ M : Mem, 0 + 1 ≤ 1) ∧ bif !(↑s.1.length : Int) == c.1 then R (.v (vi64 130)) [] else lT s.1.length (cT s.1) fun (l : List (List Nat)) => lU (lc 1 [.v (vi64 (usN k))]) fun (u : Int) => bif decide ((0 : Int) ≤ idxF (longB u) 0 l) then R (.v (vi64 130)) [] else bif !(↑s.2.length : Int) == c.2 then R (.v (vi64 130)) [] else lT s.2.length (cT s.2) fun (l : List (List Nat)) => lU (lc 1 [.v (vi64 (usN k))]) fun (u : Int) => bif decide ((0 : Int) ≤ idxF (longB u) 0 l) then R (.v (vi64 130)) [] else bif !(↑s.3.length : Int) == c.3 then R (.v (vi64 130)) [] else lT s.3.length (cT s.3) fun (l : List (List Nat)) => lU (lc 1 [.v (vi64 (usN k))]) fun (u : Int) => bif decide ((0 : Int) ≤ idxF (longB u) 0 l) then R (.v (vi64 130)) [] else bif decide ((256 : Int) < (↑s.4.length : Int)) then R (.v (vi64 130)) [] else lP s.4.length (cP s.4) fun (l : List (Int × Int × Int × Int)) => bif decide ((0 : Int) ≤ idxF (badP c.7.length (usN k)) 0 l) then R (.v (vi64 130)) [] else R (.v (vi64 0)) []) := by kernel_rfl
theorem bFi : Try.f20.body.isSome = true := by kernel_rfl
theorem nFi (c : Cir) (k : Int) : Nat.ble ([.agg [.v (.int .i64 c.fx), .v (.int .i64 c.ad), .v (.int .i64 c.ins), .x 0 [], .x 1 [], .x 2 [], .x 3 []], .v (.int .i64 k), .agg [.x 4 [], .x 5 [], .x 6 [], .x 7 []]] : List SV).length Try.f20.ntmps = true := by kernel_rfl
theorem fi_ok (c : Cir) (hc : c.ok) (s : Sht) (hs : s.ok) (k : Int) (Q : SV → List HO → Prop) (hq : Q (.v (.int .i64 (fitV c k s))) []) : FnOk Try.prog 20 [.agg [.v (.int .i64 c.fx), .v (.int .i64 c.ad), .v (.int .i64 c.ins), .x 0 [], .x 1 [], .x 2 [], .x 3 []], .v (.int .i64 k), .agg [.x 4 [], .x 5 [], .x 6 [], .x 7 []]] [.ext false (.s false 7 c.nodes.length (cN c.nodes)), .ext false (.s false 1 c.gates.length (cI c.gates)), .ext false (.s false 2 c.looks.length (cL c.looks)), .ext false (.s false 2 c.eqs.length (cK c.eqs)), .ext false (.s false 1 s.fx.length (cT s.fx)), .ext false (.s false 1 s.ad.length (cT s.ad)), .ext false (.s false 1 s.is.length (cT s.is)), .ext false (.s false 4 s.cp.length (cP s.cp))] Q := by
  refine fn_of_ok Try.func20 bFi ?_ ?_
  · exact nFi c k
  have hp := hs.c.2
  refine run_sound hm 60 ((fiS c s k _ _).mpr ⟨?_⟩)
  rw [fitV] at hq
  refine lC_mk c hc ?_
  rw [cond_not, cond_beq]
  refine ite_intro (fun h0 => ?_) (fun h0 => by rw [if_pos h0] at hq; exact hq)
  rw [if_neg (fun h => h h0)] at hq
  rw [cond_dec, cond_dec]
  refine ite_intro (fun h1 => by rw [if_pos h1] at hq; exact hq) (fun h1 => ite_intro (fun h2 => by rw [if_neg h1, if_pos h2] at hq; exact hq) (fun h2 => ?_))
  rw [if_neg h1, if_neg h2] at hq
  refine And.intro (fun _ => by omega) (And.intro (fun _ => by omega) (And.intro (fun _ => by omega) ?_))
  have one : ∀ (t : List (List Nat)) (n : Int) (X Y : Prop), okT t → (wrT n (usN k) t = true → X) → (wrT n (usN k) t = false → Y) → (bif !((t.length : Int) == n) then X else lT t.length (cT t) fun l => lU (lc 1 [.v (vi64 (usN k))]) fun u => bif decide ((0 : Int) ≤ idxF (longB u) 0 l) then X else Y) := by
    intro t n X Y ho hx hy
    rw [wrT] at hx hy
    refine cond_intro (fun e => hx (by rw [e]; rfl)) (fun e => lT_mk ho (lU_mk _ ?_))
    rw [e, Bool.false_or] at hx hy
    rw [idxF_any]
    exact cond_intro hx hy
  refine one _ _ _ _ hs.f (fun e => by rw [if_pos e] at hq; exact hq) (fun e => ?_)
  rw [if_neg (by rw [e]; exact Bool.false_ne_true)] at hq
  refine one _ _ _ _ hs.a (fun e => by rw [if_pos e] at hq; exact hq) (fun e => ?_)
  rw [if_neg (by rw [e]; exact Bool.false_ne_true)] at hq
  refine one _ _ _ _ hs.i (fun e => by rw [if_pos e] at hq; exact hq) (fun e => ?_)
  rw [if_neg (by rw [e]; exact Bool.false_ne_true), wrP] at hq
  refine cond_intro (fun e => ?_) (fun e => lP_mk _ (by omega) ?_)
  · rw [e] at hq; exact hq
  rw [e, Bool.false_or] at hq
  rw [idxF_any]
  refine cond_intro (fun e => ?_) (fun e => ?_)
  · rw [if_pos e] at hq; exact hq
  · rw [if_neg (by rw [e]; exact Bool.false_ne_true)] at hq; exact hq
noncomputable def gFi : List SV → List HO → Option ((SV → List HO → Prop) → Prop)
  | [.agg [.v (.int .i64 fx), .v (.int .i64 ad), .v (.int .i64 ins), .x 0 [], .x 1 [], .x 2 [], .x 3 []], .v (.int .i64 k), .agg [.x 4 [], .x 5 [], .x 6 [], .x 7 []]], [.ext false (.s false 7 n0 c0), .ext false (.s false 1 n1 c1), .ext false (.s false 2 n2 c2), .ext false (.s false 2 n3 c3), .ext false (.s false 1 m0 d0), .ext false (.s false 1 m1 d1), .ext false (.s false 1 m2 d2), .ext false (.s false 4 m3 d3)] =>
    some fun Q => lF fx ad ins n0 n1 n2 n3 m0 m1 m2 m3 c0 c1 c2 c3 d0 d1 d2 d3 fun c s => Q (.v (.int .i64 (fitV c k s))) []
  | _, _ => none
theorem gFi_ok (args : List SV) (h : List HO) (tr : (SV → List HO → Prop) → Prop) (Q : SV → List HO → Prop) (hc : gFi args h = some tr) (ht : tr Q) : FnOk Try.prog 20 args h Q := by
  unfold gFi at hc
  split at hc
  · simp only [Option.some.injEq] at hc
    subst hc
    obtain ⟨c, rfl, rfl, rfl, ⟨rfl, e0⟩, ⟨rfl, e1⟩, ⟨rfl, e2⟩, ⟨rfl, e3⟩, hk, ht2⟩ := ht.h.h
    obtain ⟨s, ⟨rfl, e4⟩, ⟨rfl, e5⟩, ⟨rfl, e6⟩, ⟨rfl, e7⟩, hs, hq⟩ := ht2.h
    exact FnOk.ac (fi_ok c hk s hs _ Q hq) ⟨⟨rfl, rfl, rfl, rfl, e0⟩, ⟨rfl, rfl, rfl, rfl, e1⟩, ⟨rfl, rfl, rfl, rfl, e2⟩, ⟨rfl, rfl, rfl, rfl, e3⟩, ⟨rfl, rfl, rfl, rfl, e4⟩, ⟨rfl, rfl, rfl, rfl, e5⟩, ⟨rfl, rfl, rfl, rfl, e6⟩, ⟨rfl, rfl, rfl, rfl, e7⟩, trivial⟩
  · cases hc
noncomputable def K74 : Con Try.prog := K73.add 20 gFi gFi_ok
end Go.Proofs.Ytlmjdcbhpffanaa
/- A filled circuit. -/
namespace Go.Pl
open Go.Sx
noncomputable def flCell (c : Cir) (s : Sht) (so k : Int) (qs : List (Int × Int × Int)) (j : Nat) : Cell :=
  match j with
  | 0 => .v (.int .i64 c.fx)
  | 1 => .v (.int .i64 c.ad)
  | 2 => .v (.int .i64 c.ins)
  | 3 => .s false 7 c.nodes.length (cN c.nodes)
  | 4 => .s false 1 c.gates.length (cI c.gates)
  | 5 => .s false 2 c.looks.length (cL c.looks)
  | 6 => .s false 2 c.eqs.length (cK c.eqs)
  | 7 => .s false 1 s.fx.length (cT s.fx)
  | 8 => .s false 1 s.ad.length (cT s.ad)
  | 9 => .s false 1 s.is.length (cT s.is)
  | 10 => .s false 4 s.cp.length (cP s.cp)
  | 11 => .v (.int .i64 so)
  | 12 => .v (.int .i64 k)
  | 13 => .s false 3 qs.length (cQ qs)
  | _ => .v undef
def rIx (n r t : Int) : Int := IntKind.wrap .i64 ((Int.toNat (IntKind.wrap .i64 (r + t) % (18446744073709551616 : Int)) &&& Int.toNat (IntKind.wrap .i64 (n - (1 : Int)) % (18446744073709551616 : Int)) : Nat) : Int)
def nOf (k : Int) : Int := IntKind.wrap .i64 ((1 : Int) * (2 : Int) ^ (if Int.toNat k ≤ 64 then Int.toNat k else 64))
def atQ (s : Sht) (k r : Int) (qs : List (Int × Int × Int)) : List Nat := qs.map fun q => atS s q.1 q.2.1 (rIx (nOf k) r q.2.2)
noncomputable def rowV (c : Cir) (s : Sht) (so k : Int) (qs : List (Int × Int × Int)) (r : Int) : List Nat := (vlR so qs (atQ s k r qs) c.nodes).1
structure lFk (fk : Nat → Nat → Cell) (K : Cir → Sht → Int → Int → List (Int × Int × Int) → Prop) : Prop where
  h : ∃ (c : Cir) (s : Sht) (so k : Int) (qs : List (Int × Int × Int)), IsC 1 14 fk (fun _ j => flCell c s so k qs j) ∧ c.ok ∧ s.ok ∧ 0 ≤ k ∧ qs.length ≤ 4000000000000 ∧ K c s so k qs
theorem take_gQ2 {l : List (Int × Int × Int)} {k : Nat} (h : k < l.length) : l.take (k + 1) = l.take k ++ [gQ l k] := by
  rw [List.take_add_one, List.getElem?_eq_getElem h, gQ, List.getD_eq_getElem?_getD, List.getElem?_eq_getElem h]; rfl
theorem atQ_snoc {s : Sht} {k r : Int} {qs : List (Int × Int × Int)} {i : Nat} (h : i < qs.length) : atQ s k r (qs.take (i + 1)) = atQ s k r (qs.take i) ++ [atS s (gQ qs i).1 (gQ qs i).2.1 (rIx (nOf k) r (gQ qs i).2.2)] := by
  rw [take_gQ2 h, atQ, List.map_append]; rfl
theorem atQ_top {s : Sht} (hs : s.ok) (k r : Int) (qs : List (Int × Int × Int)) : ∀ v ∈ atQ s k r qs, v < top := by
  intro v hv
  obtain ⟨q, _, rfl⟩ := List.mem_map.1 hv
  exact atS_top hs _ _ _
end Go.Pl
namespace Go.Proofs.Ytlmjdcbhpffanaa
open Go.Sx Go.Pl
set_option linter.unusedVariables false
set_option maxRecDepth 100000
end Go.Proofs.Ytlmjdcbhpffanaa
/- The value of each node in a row. -/
namespace Go.Proofs.Ytlmjdcbhpffanaa
open Go.Sx Go.Pl
set_option linter.unusedVariables false
set_option maxRecDepth 100000
theorem rwS (c : Cir) (s : Sht) (so k : Int) (qs : List (Int × Int × Int)) (r : Int) (K : List It → St → Prop) (R : SV → List HO → Prop) : W (xwp Try.prog X K74 [] 60 (fxOf Try.f50 [] [⟨[0,1,0,1,1,1], [21,20,19,6,5,0,1], [(6,56,4)]⟩]) [] [.at []] ⟨argsS 0 [.x 0 [], .v (.int .i64 r)], [.ext true (.s true 14 1 (fun _ j => flCell c s so k qs j))]⟩ K R) = W ((∀ M : Mem, 0 < 1) ∧ (∀ M : Mem, 0 < 1) ∧ (∀ M : Mem, 0 < 1) ∧ (∀ M : Mem, ¬k < (0 : Int)) ∧ (∀ M : Mem, 0 < 1) ∧ (∀ M : Mem, 0 < 1) ∧ (∀ M : Mem, 0 < 1) ∧ (∀ M : Mem, 0 < 1) ∧ K [.at [0,1,0,1,1,1], .blk 0, .at [1,1,1,1]] (St.mk [(21, .v (vi64 0)), (20, .v (vi64 (↑(List.length qs) : Int))), (19, .x 0 [(14, 0, 13)]), (6, .o 1), (5, .v (vi64 (IntKind.wrap .i64 ((1 : Int) * (2 : Int) ^ if Int.toNat k ≤ 64 then Int.toNat k else 64)))), (0, .x 0 []), (1, .v (vi64 r))] [.ext true (.s true 14 1 fun (x j : Nat) => flCell c s so k qs j), .rowc 56 4 0 (.lit 1 [])])) := by kernel_rfl
theorem rwR (c : Cir) (s : Sht) (so k : Int) (qs : List (Int × Int × Int)) (r : Int) (vs : List Nat) (n : Int) (m i M : Nat) (K : List It → St → Prop) (R : SV → List HO → Prop) : W (xwp Try.prog X K74 [] 60 (fxOf Try.f50 [] [⟨[0,1,0,1,1,1], [21,20,19,6,5,0,1], [(6,56,4)]⟩]) [] (.at [0,0,1,0,1,1,1] :: .rnd [0,0,1,0,1,1,1] M :: [.blk 0, .at [1,1,1,1]]) ⟨[(21, .v (.int .i64 (i : Int))), (20, .v (.int .i64 (qs.length : Int))), (19, .x 0 [(14, 0, 13)]), (6, .o 1), (5, .v (.int .i64 n)), (0, .x 0 []), (1, .v (.int .i64 r))], [.ext true (.s true 14 1 (fun _ j => flCell c s so k qs j)), .rowc 56 4 m (.fn (cE vs))]⟩ K R) = W (bif decide ((↑i : Int) < (↑(List.length qs) : Int)) then (∀ M : Mem, 0 < 1) ∧ (∀ M : Mem, (0 : Int) ≤ (↑i : Int) ∧ (↑i : Int) < (↑(List.length qs) : Int)) ∧ (∀ M : Mem, 0 < 1) ∧ (∀ M : Mem, i < List.length qs) ∧ (∀ M : Mem, 0 + 3 ≤ 3) ∧ (∀ M : Mem, 0 < 1) ∧ (∀ M : Mem, 0 < 1) ∧ (∀ M : Mem, 0 < 1) ∧ (∀ M : Mem, 0 < 1) ∧ (∀ M : Mem, 0 < 1) ∧ (∀ M : Mem, 0 < 1) ∧ (∀ M : Mem, 0 < 1) ∧ lS s.1.length s.2.length s.3.length s.4.length (cT s.1) (cT s.2) (cT s.3) (cP s.4) fun (s_1 : Sht) => (∀ M : Mem, (m + 1) * 32 ≤ 140737488355328 ∧ m + 1 ≤ 140737488355328) ∧ K [.rnd [0,0,1,0,1,1,1] M, .blk 0, .at [1,1,1,1]] (St.mk [(21, .v (vi64 (IntKind.wrap .i64 ((↑i : Int) + (1 : Int))))), (20, .v (vi64 (↑(List.length qs) : Int))), (19, .x 0 [(14, 0, 13)]), (6, .o 1), (5, .v (vi64 n)), (0, .x 0 []), (1, .v (vi64 r))] [.ext true (.s true 14 1 fun (x j : Nat) => flCell c s so k qs j), .rowc 56 4 (m + 1) (.app m (.fn (cE vs)) (.lit 4 [.v (vu64 (↑(limb (atS s_1 (gQ qs i).1 (gQ qs i).2.1 (IntKind.wrap .i64 (↑(Int.toNat (IntKind.wrap .i64 (r + (gQ qs i).2.2) % (18446744073709551616 : Int)) &&& Int.toNat (IntKind.wrap .i64 (n - (1 : Int)) % (18446744073709551616 : Int))) : Int))) 0) : Int)), .v (vu64 (↑(limb (atS s_1 (gQ qs i).1 (gQ qs i).2.1 (IntKind.wrap .i64 (↑(Int.toNat (IntKind.wrap .i64 (r + (gQ qs i).2.2) % (18446744073709551616 : Int)) &&& Int.toNat (IntKind.wrap .i64 (n - (1 : Int)) % (18446744073709551616 : Int))) : Int))) 1) : Int)), .v (vu64 (↑(limb (atS s_1 (gQ qs i).1 (gQ qs i).2.1 (IntKind.wrap .i64 (↑(Int.toNat (IntKind.wrap .i64 (r + (gQ qs i).2.2) % (18446744073709551616 : Int)) &&& Int.toNat (IntKind.wrap .i64 (n - (1 : Int)) % (18446744073709551616 : Int))) : Int))) 2) : Int)), .v (vu64 (↑(limb (atS s_1 (gQ qs i).1 (gQ qs i).2.1 (IntKind.wrap .i64 (↑(Int.toNat (IntKind.wrap .i64 (r + (gQ qs i).2.2) % (18446744073709551616 : Int)) &&& Int.toNat (IntKind.wrap .i64 (n - (1 : Int)) % (18446744073709551616 : Int))) : Int))) 3) : Int))]))]) else (∀ M : Mem, 0 < 1) ∧ (∀ M : Mem, 0 < 1) ∧ (∀ M : Mem, 0 < 1) ∧ (∀ M : Mem, 0 < 1) ∧ (∀ M : Mem, 0 < 1) ∧ (∀ M : Mem, 0 < 1) ∧ (∀ M : Mem, 0 < 1) ∧ (∀ M : Mem, 0 < 1) ∧ (∀ M : Mem, 0 < 1) ∧ (∀ M : Mem, 0 < 1) ∧ (∀ M : Mem, 0 < 1) ∧ (∀ M : Mem, 0 < 1) ∧ vlC c.4.length (List.length qs) m (cN c.4) (cQ qs) (cE vs) fun (l : List Nd) (qs : List Qy) (vs : List Nat) => R (.o 0) [.rowc 56 4 (List.length (vlR so qs vs l).1) (.fn (cE (vlR so qs vs l).1))]) := by kernel_rfl
theorem rw_loop (c : Cir) (hc : c.ok) (s : Sht) (hs : s.ok) (so k : Int) (qs : List (Int × Int × Int)) (hq4 : qs.length ≤ 4000000000000) (r : Int) (Q : SV → List HO → Prop) (hq : Q (.o 0) [.rowc 56 4 (rowV c s so k qs r).length (.fn (cE (rowV c s so k qs r)))]) : ∀ (d i : Nat) (vs : List Nat), i + d = qs.length → vs = atQ s k r (qs.take i) →
    FOk Try.prog Try.f50 Q (.rnd [0,0,1,0,1,1,1] (d + 1) :: [.blk 0, .at [1,1,1,1]]) ⟨[(21, .v (.int .i64 (i : Int))), (20, .v (.int .i64 (qs.length : Int))), (19, .x 0 [(14, 0, 13)]), (6, .o 1), (5, .v (.int .i64 (nOf k))), (0, .x 0 []), (1, .v (.int .i64 r))], [.ext true (.s true 14 1 (fun _ j => flCell c s so k qs j)), .rowc 56 4 vs.length (.fn (cE vs))]⟩
  | 0, i, vs, hd, hv => by
    have h1 := hc.n.2
    refine FOk.rnd (run_sound hm 60 ((rwR c s so k qs r vs (nOf k) vs.length i 0 _ _).mpr ⟨?_⟩))
    rw [cond_dec, if_neg (by omega)]
    rw [show i = qs.length by omega, List.take_length] at hv
    refine And.intro (fun _ => by omega) (And.intro (fun _ => by omega) (And.intro (fun _ => by omega) (And.intro (fun _ => by omega) (And.intro (fun _ => by omega) (And.intro (fun _ => by omega) (And.intro (fun _ => by omega) (And.intro (fun _ => by omega) (And.intro (fun _ => by omega) (And.intro (fun _ => by omega) (And.intro (fun _ => by omega) (And.intro (fun _ => by omega) (⟨⟨c.nodes, qs, vs, rfl, IsC.refl _ _ _, rfl, IsC.refl _ _ _, rfl, IsC.refl _ _ _, by omega, by omega, fun x hx => (hc.n.1 x hx).1, by rw [hv]; exact atQ_top hs k r qs, ?_⟩⟩))))))))))))
    rw [hv]
    exact hq
  | d + 1, i, vs, hd, hv => by
    have hi : i < qs.length := by omega
    have hlen : vs.length = i := by rw [hv, atQ, List.length_map, List.length_take]; omega
    refine FOk.rnd (run_sound hm 60 ((rwR c s so k qs r vs (nOf k) vs.length i (d + 1) _ _).mpr ⟨?_⟩))
    rw [cond_dec, if_pos (by omega), wrap_inc _ (by omega)]
    have next := rw_loop c hc s hs so k qs hq4 r Q hq d (i + 1) (vs ++ [atS s (gQ qs i).1 (gQ qs i).2.1 (rIx (nOf k) r (gQ qs i).2.2)]) (by omega) (by rw [atQ_snoc hi, hv])
    rw [List.length_append, List.length_singleton] at next
    refine And.intro (fun _ => by omega) (And.intro (fun _ => by omega) (And.intro (fun _ => by omega) (And.intro (fun _ => by omega) (And.intro (fun _ => by omega) (And.intro (fun _ => by omega) (And.intro (fun _ => by omega) (And.intro (fun _ => by omega) (And.intro (fun _ => by omega) (And.intro (fun _ => by omega) (And.intro (fun _ => by omega) (And.intro (fun _ => by omega) (lS_mk s hs (And.intro (fun _ => by omega) ?_)))))))))))))
    exact FOk.cv next ⟨HE.refl _, ⟨rfl, rfl, rfl, cE_snoc _ rfl⟩, trivial⟩
theorem bRw : Try.f50.body.isSome = true := by kernel_rfl
theorem nRw (r : Int) : Nat.ble [SV.x 0 [], .v (.int .i64 r)].length Try.f50.ntmps = true := by kernel_rfl
theorem rw_ok (c : Cir) (hc : c.ok) (s : Sht) (hs : s.ok) (so k : Int) (hk : 0 ≤ k) (qs : List (Int × Int × Int)) (hq4 : qs.length ≤ 4000000000000) (r : Int) (Q : SV → List HO → Prop) (hq : Q (.x 0 []) [.ext false (.s false 4 (rowV c s so k qs r).length (cE (rowV c s so k qs r)))]) : FnOk Try.prog 50 [.x 0 [], .v (.int .i64 r)] [.ext true (.s true 14 1 (fun _ j => flCell c s so k qs j))] Q := by
  have h0 : FnOk Try.prog 50 [.x 0 [], .v (.int .i64 r)] [.ext true (.s true 14 1 (fun _ j => flCell c s so k qs j))] (fun z h' => z = .o 0 ∧ h' = [.rowc 56 4 (rowV c s so k qs r).length (.fn (cE (rowV c s so k qs r)))]) := by
    refine fn_of_ok Try.func50 bRw ?_ ?_
    · exact nRw r
    refine run_sound hm 60 ((rwS c s so k qs r _ _).mpr ⟨?_⟩)
    refine And.intro (fun _ => by omega) (And.intro (fun _ => by omega) (And.intro (fun _ => by omega) (And.intro (fun _ => by omega) (And.intro (fun _ => by omega) (And.intro (fun _ => by omega) (And.intro (fun _ => by omega) (And.intro (fun _ => by omega) (?_))))))))
    exact FOk.loop (qs.length + 1) (by kernel_rfl) (FOk.cv (rw_loop c hc s hs so k qs hq4 r _ ⟨rfl, rfl⟩ qs.length 0 [] (by omega) rfl) ⟨HE.refl _, ⟨rfl, rfl, rfl, fun k hk => by simp at hk⟩, trivial⟩)
  have h := FnOk.gc (r1 := .x 0 []) (h1 := [.ext false (.s false 4 (rowV c s so k qs r).length (cE (rowV c s so k qs r)))]) rfl (FnOk.frz1 0 rfl h0)
  exact FnOk.mono h fun z h' hh => by rw [hh.1, hh.2]; exact hq
noncomputable def gRw : List SV → List HO → Option ((SV → List HO → Prop) → Prop)
  | [.x 0 [], .v (.int .i64 r)], [.ext true (.s true 14 1 fk)] => some fun Q => lFk fk fun c s so k qs => Q (.x 0 []) [.ext false (.s false 4 (rowV c s so k qs r).length (cE (rowV c s so k qs r)))]
  | _, _ => none
theorem gRw_ok (args : List SV) (h : List HO) (tr : (SV → List HO → Prop) → Prop) (Q : SV → List HO → Prop) (hc : gRw args h = some tr) (ht : tr Q) : FnOk Try.prog 50 args h Q := by
  unfold gRw at hc
  split at hc
  · simp only [Option.some.injEq] at hc
    subst hc
    obtain ⟨c, s, so, k, qs, e, hk, hs, h0, h4, hq⟩ := ht.h
    exact FnOk.ac (rw_ok c hk s hs so k h0 qs h4 _ Q hq) ⟨⟨rfl, rfl, rfl, rfl, e⟩, trivial⟩
  · cases hc
noncomputable def K75 : Con Try.prog := K74.add 50 gRw gRw_ok
end Go.Proofs.Ytlmjdcbhpffanaa
/- A row's values, as they are answered. -/
namespace Go.Sx
open Go.RowKit
theorem FnOk.nilTX {P : Program} {m : Nat} {f : FuncId} {args : List SV} {h : List HO} {Q : SV → List HO → Prop} (sz : Nat) (c : Nat → Nat → Cell) (k : FnOkM P m f args h fun r h' => Q r h' ∨ (∃ y, r = .tup [.v (.slice none 0 0), .v y] ∧ h' = [] ∧ Q (.tup [.x 0 [], .v y]) [.ext false (.s false sz 0 c)])) : FnOkM P m f args h Q := by
  intro F hF w0 e hm0 S hw
  refine (k F hF w0 e hm0 S hw).mono fun E w' hE => ?_
  obtain ⟨e', r, h', hq, h2, h3, h4⟩ := hE
  rcases hq with hq | ⟨y, rfl, rfl, hq⟩
  · exact ⟨e', r, h', hq, h2, h3, h4⟩
  · refine ⟨e'.setV 0 (fun _ => .slice none 0 0) (fun _ => rfl), .tup [.x 0 [], .v y], _, hq, ⟨Nat.zero_lt_one, trivial, trivial⟩, ?_, by rw [h4]; simp [den, denL, Env.setV]⟩
    exact h3.newExt hF false (.s false sz 0 c) (fun _ => .slice none 0 0) (fun _ => rfl) ⟨none, ⟨0, rfl, Nat.le_refl _⟩, .inl rfl⟩
end Go.Sx
namespace Go.Pl
open Go.Sx
theorem lFk_mk (c : Cir) (hc : c.ok) (s : Sht) (hs : s.ok) (so k : Int) (hk : 0 ≤ k) (qs : List (Int × Int × Int)) (hq4 : qs.length ≤ 4000000000000) {K : Cir → Sht → Int → Int → List (Int × Int × Int) → Prop} (h : K c s so k qs) : lFk (lc 14 [.v (vi64 c.1), .v (vi64 c.2), .v (vi64 c.3), .s false 7 (List.length c.4) (cN c.4), .s false 1 (List.length c.5) (cI c.5), .s false 2 (List.length c.6) (cL c.6), .s false 2 (List.length c.7) (cK c.7), .s false 1 (List.length s.1) (cT s.1), .s false 1 (List.length s.2) (cT s.2), .s false 1 (List.length s.3) (cT s.3), .s false 4 (List.length s.4) (cP s.4), .v (vi64 so), .v (vi64 k), .s false 3 (List.length qs) (cQ qs)]) K :=
  ⟨⟨c, s, so, k, qs, fun i hi j hj => by
    have e : i = 0 := by omega
    subst e
    match j, hj with
    | 0, _ => rfl
    | 1, _ => rfl
    | 2, _ => rfl
    | 3, _ => rfl
    | 4, _ => rfl
    | 5, _ => rfl
    | 6, _ => rfl
    | 7, _ => rfl
    | 8, _ => rfl
    | 9, _ => rfl
    | 10, _ => rfl
    | 11, _ => rfl
    | 12, _ => rfl
    | 13, _ => rfl, hc, hs, hk, hq4, h⟩⟩
noncomputable def rowR (c : Cir) (s : Sht) (so k r : Int) : List Nat × Int := if fE so ≠ 0 then ([], fE so) else if fitV c k s ≠ 0 then ([], fitV c k s) else if r < 0 then ([], 50) else if nOf k ≤ r then ([], 50) else (rowV c s so k (qsN [] c.nodes) r, 0)
theorem fitV_zero {c : Cir} {k : Int} {s : Sht} (h : fitV c k s = 0) : chkC c = 0 ∧ 3 ≤ k ∧ k ≤ 5 ∧ wrT c.fx (usN k) s.fx = false ∧ wrT c.ad (usN k) s.ad = false ∧ wrT c.ins (usN k) s.is = false ∧ wrP c.eqs.length (usN k) s.cp = false := by
  rw [fitV] at h
  by_cases h0 : chkC c = 0
  · rw [if_neg (fun hh => hh h0)] at h
    by_cases h1 : k < 3
    · rw [if_pos h1] at h; cases h
    rw [if_neg h1] at h
    by_cases h2 : 5 < k
    · rw [if_pos h2] at h; cases h
    rw [if_neg h2] at h
    refine ⟨h0, by omega, by omega, ?_⟩
    repeat' split at h
    all_goals first
      | cases h; done
      | simp_all
  · rw [if_pos h0] at h; exact absurd h h0
theorem chkC_nodes {c : Cir} (h : chkC c = 0) : c.nodes.length ≤ 64 := by
  obtain ⟨h0, _⟩ := chkC_zero h
  exact (chkN_ord h0).1
end Go.Pl
namespace Go.Proofs.Ytlmjdcbhpffanaa
open Go.Sx Go.Pl
set_option linter.unusedVariables false
set_option maxRecDepth 100000
theorem sroS (c : Cir) (s : Sht) (so k r : Int) (K : List It → St → Prop) (R : SV → List HO → Prop) : W (xwp Try.prog X K75 [(49, [])] 60 (fxOf Try.f30 [] []) [] [.at []] ⟨argsS 0 [.v (.int .i64 so), .agg [.v (.int .i64 c.fx), .v (.int .i64 c.ad), .v (.int .i64 c.ins), .x 0 [], .x 1 [], .x 2 [], .x 3 []], .v (.int .i64 k), .agg [.x 4 [], .x 5 [], .x 6 [], .x 7 []], .v (.int .i64 r)], [.ext false (.s false 7 c.nodes.length (cN c.nodes)), .ext false (.s false 1 c.gates.length (cI c.gates)), .ext false (.s false 2 c.looks.length (cL c.looks)), .ext false (.s false 2 c.eqs.length (cK c.eqs)), .ext false (.s false 1 s.fx.length (cT s.fx)), .ext false (.s false 1 s.ad.length (cT s.ad)), .ext false (.s false 1 s.is.length (cT s.is)), .ext false (.s false 4 s.cp.length (cP s.cp))]⟩ K R) = W ((∀ M : Mem, 0 + 4 ≤ 4) ∧ bif !fE so == (0 : Int) then bif !fE so == (0 : Int) then R (.tup [.v (Value.slice none 0 0), .v (vi64 (fE so))]) [] else bif decide (r < (0 : Int)) then R (.tup [.v (Value.slice none 0 0), .v (vi64 50)]) [] else (∀ M : Mem, ¬k < (0 : Int)) ∧ bif decide (IntKind.wrap .i64 ((1 : Int) * (2 : Int) ^ if Int.toNat k ≤ 64 then Int.toNat k else 64) ≤ r) then R (.tup [.v (Value.slice none 0 0), .v (vi64 50)]) [] else K [It.ops [0,1,1,1,1] 2, .at [1,1,1,1,1]] (St.mk [(34, .v (vi64 r)), (33, .v (Value.pointer none)), (32, .bl false), (31, .v (.bool (decide (IntKind.wrap .i64 ((1 : Int) * (2 : Int) ^ if Int.toNat k ≤ 64 then Int.toNat k else 64) ≤ r)))), (30, .v (vi64 (IntKind.wrap .i64 ((1 : Int) * (2 : Int) ^ if Int.toNat k ≤ 64 then Int.toNat k else 64)))), (29, .v (vi64 k)), (28, .v (vi64 r)), (27, .bl false), (26, .v (.bool (decide (r < (0 : Int))))), (25, .v (vi64 r)), (23, .bl false), (22, .v (vi64 (fE so))), (13, .v (vi64 (fE so))), (12, .v (Value.pointer none)), (21, .v (vi64 (fE so))), (20, .v (Value.pointer none)), (14, .tup [.v (Value.pointer none), .v (vi64 (fE so))]), (19, .tup [.v (Value.pointer none), .v (vi64 (fE so))]), (18, .agg [.x 4 [], .x 5 [], .x 6 [], .x 7 []]), (17, .v (vi64 k)), (16, .agg [.v (vi64 c.1), .v (vi64 c.2), .v (vi64 c.3), .x 0 [], .x 1 [], .x 2 [], .x 3 []]), (15, .v (vi64 so)), (11, .v (vi64 0)), (10, .v (Value.slice none 0 0)), (8, .p 9 0), (6, .p 8 0), (0, .v (vi64 so)), (1, .agg [.v (vi64 c.1), .v (vi64 c.2), .v (vi64 c.3), .x 0 [], .x 1 [], .x 2 [], .x 3 []]), (2, .v (vi64 k)), (3, .agg [.x 4 [], .x 5 [], .x 6 [], .x 7 []]), (4, .v (vi64 r))] [.ext false (.s false 7 c.4.length (cN c.4)), .ext false (.s false 1 c.5.length (cI c.5)), .ext false (.s false 2 c.6.length (cL c.6)), .ext false (.s false 2 c.7.length (cK c.7)), .ext false (.s false 1 s.1.length (cT s.1)), .ext false (.s false 1 s.2.length (cT s.2)), .ext false (.s false 1 s.3.length (cT s.3)), .ext false (.s false 4 s.4.length (cP s.4)), .cells [.v (vi64 c.1), .v (vi64 c.2), .v (vi64 c.3), .x 0 [], .x 1 [], .x 2 [], .x 3 []] 27, .cells [.x 4 [], .x 5 [], .x 6 [], .x 7 []] 49]) else lF c.1 c.2 c.3 c.4.length c.5.length c.6.length c.7.length s.1.length s.2.length s.3.length s.4.length (cN c.4) (cI c.5) (cL c.6) (cK c.7) (cT s.1) (cT s.2) (cT s.3) (cP s.4) fun (c_1 : Cir) (s_1 : Sht) => bif !fitV c_1 k s_1 == (0 : Int) then bif !fitV c_1 k s_1 == (0 : Int) then R (.tup [.v (Value.slice none 0 0), .v (vi64 (fitV c_1 k s_1))]) [] else bif decide (r < (0 : Int)) then R (.tup [.v (Value.slice none 0 0), .v (vi64 50)]) [] else (∀ M : Mem, ¬k < (0 : Int)) ∧ bif decide (IntKind.wrap .i64 ((1 : Int) * (2 : Int) ^ if Int.toNat k ≤ 64 then Int.toNat k else 64) ≤ r) then R (.tup [.v (Value.slice none 0 0), .v (vi64 50)]) [] else K [It.ops [0,1,1,1,1] 2, .at [1,1,1,1,1]] (St.mk [(34, .v (vi64 r)), (33, .v (Value.pointer none)), (32, .bl false), (31, .v (.bool (decide (IntKind.wrap .i64 ((1 : Int) * (2 : Int) ^ if Int.toNat k ≤ 64 then Int.toNat k else 64) ≤ r)))), (30, .v (vi64 (IntKind.wrap .i64 ((1 : Int) * (2 : Int) ^ if Int.toNat k ≤ 64 then Int.toNat k else 64)))), (29, .v (vi64 k)), (28, .v (vi64 r)), (27, .bl false), (26, .v (.bool (decide (r < (0 : Int))))), (25, .v (vi64 r)), (23, .bl false), (22, .v (vi64 (fitV c_1 k s_1))), (13, .v (vi64 (fitV c_1 k s_1))), (12, .v (Value.pointer none)), (21, .v (vi64 (fitV c_1 k s_1))), (20, .v (Value.pointer none)), (14, .tup [.v (Value.pointer none), .v (vi64 (fitV c_1 k s_1))]), (19, .tup [.v (Value.pointer none), .v (vi64 (fitV c_1 k s_1))]), (18, .agg [.x 4 [], .x 5 [], .x 6 [], .x 7 []]), (17, .v (vi64 k)), (16, .agg [.v (vi64 c.1), .v (vi64 c.2), .v (vi64 c.3), .x 0 [], .x 1 [], .x 2 [], .x 3 []]), (15, .v (vi64 so)), (11, .v (vi64 0)), (10, .v (Value.slice none 0 0)), (8, .p 9 0), (6, .p 8 0), (0, .v (vi64 so)), (1, .agg [.v (vi64 c.1), .v (vi64 c.2), .v (vi64 c.3), .x 0 [], .x 1 [], .x 2 [], .x 3 []]), (2, .v (vi64 k)), (3, .agg [.x 4 [], .x 5 [], .x 6 [], .x 7 []]), (4, .v (vi64 r))] [.ext false (.s false 7 c.4.length (cN c.4)), .ext false (.s false 1 c.5.length (cI c.5)), .ext false (.s false 2 c.6.length (cL c.6)), .ext false (.s false 2 c.7.length (cK c.7)), .ext false (.s false 1 s.1.length (cT s.1)), .ext false (.s false 1 s.2.length (cT s.2)), .ext false (.s false 1 s.3.length (cT s.3)), .ext false (.s false 4 s.4.length (cP s.4)), .cells [.v (vi64 c.1), .v (vi64 c.2), .v (vi64 c.3), .x 0 [], .x 1 [], .x 2 [], .x 3 []] 27, .cells [.x 4 [], .x 5 [], .x 6 [], .x 7 []] 49]) else ∃ (l : List Nd), List.length c.4 = List.length l ∧ IsC c.4.length 7 (cN c.4) (cN l) ∧ List.length l ≤ 4000000000000 ∧ bif decide (r < (0 : Int)) then R (.tup [.v (Value.slice none 0 0), .v (vi64 50)]) [] else (∀ M : Mem, ¬k < (0 : Int)) ∧ bif decide (IntKind.wrap .i64 ((1 : Int) * (2 : Int) ^ if Int.toNat k ≤ 64 then Int.toNat k else 64) ≤ r) then R (.tup [.v (Value.slice none 0 0), .v (vi64 50)]) [] else lFk (lc 14 [.v (vi64 c.1), .v (vi64 c.2), .v (vi64 c.3), .s false 7 c.4.length (cN c.4), .s false 1 c.5.length (cI c.5), .s false 2 c.6.length (cL c.6), .s false 2 c.7.length (cK c.7), .s false 1 s.1.length (cT s.1), .s false 1 s.2.length (cT s.2), .s false 1 s.3.length (cT s.3), .s false 4 s.4.length (cP s.4), .v (vi64 so), .v (vi64 k), .s false 3 (List.length (qsN [] l)) (cQ (qsN [] l))]) fun (c : Cir) (s : Sht) (so k : Int) (qs : List (Int × Int × Int)) => R (.tup [.x 0 [], .v (vi64 0)]) [.ext false (.s false 4 (List.length (rowV c s so k qs r)) (cE (rowV c s so k qs r)))]) := by kernel_rfl
theorem bSro : Try.f30.body.isSome = true := by kernel_rfl
theorem nSro (c : Cir) (so k r : Int) : Nat.ble ([.v (.int .i64 so), .agg [.v (.int .i64 c.fx), .v (.int .i64 c.ad), .v (.int .i64 c.ins), .x 0 [], .x 1 [], .x 2 [], .x 3 []], .v (.int .i64 k), .agg [.x 4 [], .x 5 [], .x 6 [], .x 7 []], .v (.int .i64 r)] : List SV).length Try.f30.ntmps = true := by kernel_rfl
theorem sro_ok (c : Cir) (hc : c.ok) (s : Sht) (hs : s.ok) (so k r : Int) (Q : SV → List HO → Prop) (hq : Q (.tup [.x 0 [], .v (.int .i64 (rowR c s so k r).2)]) [.ext false (.s false 4 (rowR c s so k r).1.length (cE (rowR c s so k r).1))]) : FnOk Try.prog 30 [.v (.int .i64 so), .agg [.v (.int .i64 c.fx), .v (.int .i64 c.ad), .v (.int .i64 c.ins), .x 0 [], .x 1 [], .x 2 [], .x 3 []], .v (.int .i64 k), .agg [.x 4 [], .x 5 [], .x 6 [], .x 7 []], .v (.int .i64 r)] [.ext false (.s false 7 c.nodes.length (cN c.nodes)), .ext false (.s false 1 c.gates.length (cI c.gates)), .ext false (.s false 2 c.looks.length (cL c.looks)), .ext false (.s false 2 c.eqs.length (cK c.eqs)), .ext false (.s false 1 s.fx.length (cT s.fx)), .ext false (.s false 1 s.ad.length (cT s.ad)), .ext false (.s false 1 s.is.length (cT s.is)), .ext false (.s false 4 s.cp.length (cP s.cp))] Q := by
  refine FnOk.nilTX 4 (cE []) (fn_of_ok Try.func30 bSro ?_ ?_)
  · exact nSro c so k r
  refine run_sound hm 60 ((sroS c s so k r _ _).mpr ⟨?_⟩)
  rw [rowR] at hq
  simp only [cond_not, cond_beq, cond_dec]
  have bad : ∀ z : Int, Q (.tup [.x 0 [], .v (.int .i64 z)]) [.ext false (.s false 4 0 (cE []))] → Q (SV.tup [.v (.slice none 0 0), .v (vi64 z)]) [] ∨ ∃ y, SV.tup [.v (.slice none 0 0), .v (vi64 z)] = SV.tup [.v (.slice none 0 0), .v y] ∧ True ∧ Q (.tup [.x 0 [], .v y]) [.ext false (.s false 4 0 (cE []))] := fun z hz => .inr ⟨_, rfl, trivial, hz⟩
  refine And.intro (fun _ => by omega) (ite_intro (fun h0 => ?_) (fun h0 => ?_))
  · rw [if_neg (fun h => h h0)] at hq
    refine lF_mk c hc s hs (ite_intro (fun h1 => ?_) (fun h1 => ?_))
    · rw [if_neg (fun h => h h1)] at hq
      obtain ⟨hk0, hk3, _⟩ := fitV_zero h1
      have hl := chkC_nodes hk0
      have hl2 := qsN_len c.nodes []
      rw [List.length_nil] at hl2
      refine ⟨c.nodes, rfl, IsC.refl _ _ _, by omega, ite_intro (fun h2 => ?_) (fun h2 => And.intro (fun _ => by omega) (ite_intro (fun h3 => ?_) (fun h3 => ?_)))⟩
      · rw [if_pos h2] at hq; exact bad _ hq
      · rw [if_neg h2, if_pos (show nOf k ≤ r from h3)] at hq; exact bad _ hq
      · rw [if_neg h2, if_neg (show ¬ nOf k ≤ r from h3)] at hq
        exact lFk_mk c hc s hs so k (by omega) (qsN [] c.nodes) (by omega) (.inl hq)
    · rw [if_neg h1]
      rw [if_pos h1] at hq
      exact bad _ hq
  · rw [if_neg h0]
    rw [if_pos h0] at hq
    exact bad _ hq
noncomputable def gSro : List SV → List HO → Option ((SV → List HO → Prop) → Prop)
  | [.v (.int .i64 so), .agg [.v (.int .i64 fx), .v (.int .i64 ad), .v (.int .i64 ins), .x 0 [], .x 1 [], .x 2 [], .x 3 []], .v (.int .i64 k), .agg [.x 4 [], .x 5 [], .x 6 [], .x 7 []], .v (.int .i64 r)], [.ext false (.s false 7 n0 c0), .ext false (.s false 1 n1 c1), .ext false (.s false 2 n2 c2), .ext false (.s false 2 n3 c3), .ext false (.s false 1 m0 d0), .ext false (.s false 1 m1 d1), .ext false (.s false 1 m2 d2), .ext false (.s false 4 m3 d3)] =>
    some fun Q => lF fx ad ins n0 n1 n2 n3 m0 m1 m2 m3 c0 c1 c2 c3 d0 d1 d2 d3 fun c s => Q (.tup [.x 0 [], .v (.int .i64 (rowR c s so k r).2)]) [.ext false (.s false 4 (rowR c s so k r).1.length (cE (rowR c s so k r).1))]
  | _, _ => none
theorem gSro_ok (args : List SV) (h : List HO) (tr : (SV → List HO → Prop) → Prop) (Q : SV → List HO → Prop) (hc : gSro args h = some tr) (ht : tr Q) : FnOk Try.prog 30 args h Q := by
  unfold gSro at hc
  split at hc
  · simp only [Option.some.injEq] at hc
    subst hc
    obtain ⟨c, rfl, rfl, rfl, ⟨rfl, e0⟩, ⟨rfl, e1⟩, ⟨rfl, e2⟩, ⟨rfl, e3⟩, hk, ht2⟩ := ht.h.h
    obtain ⟨s, ⟨rfl, e4⟩, ⟨rfl, e5⟩, ⟨rfl, e6⟩, ⟨rfl, e7⟩, hs, hq⟩ := ht2.h
    exact FnOk.ac (sro_ok c hk s hs _ _ _ Q hq) ⟨⟨rfl, rfl, rfl, rfl, e0⟩, ⟨rfl, rfl, rfl, rfl, e1⟩, ⟨rfl, rfl, rfl, rfl, e2⟩, ⟨rfl, rfl, rfl, rfl, e3⟩, ⟨rfl, rfl, rfl, rfl, e4⟩, ⟨rfl, rfl, rfl, rfl, e5⟩, ⟨rfl, rfl, rfl, rfl, e6⟩, ⟨rfl, rfl, rfl, rfl, e7⟩, trivial⟩
  · cases hc
noncomputable def K76 : Con Try.prog := K75.add 30 gSro gSro_ok
end Go.Proofs.Ytlmjdcbhpffanaa
/- What a lookup asks for. -/
namespace Go.Pl
open Go.Sx
def tkN (l : List Nat) (ns : List Int) (j : Nat) : Nat := if j < ns.length then gE l (gI ns j).toNat else 0
structure lTk (nl nn : Nat) (cl cn : Nat → Nat → Cell) (k : List Nat → List Int → Prop) : Prop where
  h : ∃ (l : List Nat) (ns : List Int), nl = l.length ∧ IsC nl 4 cl (cE l) ∧ nn = ns.length ∧ IsC nn 1 cn (cI ns) ∧ ns.length ≤ 4 ∧ (∀ g ∈ ns, 0 ≤ g ∧ g < (l.length : Int)) ∧ k l ns
theorem lTk_mk (l : List Nat) (ns : List Int) (h4 : ns.length ≤ 4) (hg : ∀ g ∈ ns, 0 ≤ g ∧ g < (l.length : Int)) {k : List Nat → List Int → Prop} (h : k l ns) : lTk l.length ns.length (cE l) (cI ns) k := ⟨⟨l, ns, rfl, IsC.refl _ _ _, rfl, IsC.refl _ _ _, h4, hg, h⟩⟩
end Go.Pl
namespace Go.Proofs.Ytlmjdcbhpffanaa
open Go.Sx Go.Pl
set_option linter.unusedVariables false
set_option maxRecDepth 100000
theorem pkS (b0 b1 : Bool) (l : List Nat) (ns : List Int) (K : List It → St → Prop) (R : SV → List HO → Prop) : W (xwp Try.prog X K76 [] 60 (fxOf Try.f72 [([0,1,0,1,1], 5)] []) [] [.at []] ⟨argsS 0 [.x 0 [], .x 1 []], [.ext b0 (.s false 4 l.length (cE l)), .ext b1 (.s false 1 ns.length (cI ns))]⟩ K R) = W (bif decide ((0 : Int) < (↑(List.length ns) : Int)) then (∀ M : Mem, (0 : Int) ≤ (0 : Int) ∧ (0 : Int) < (↑(List.length ns) : Int)) ∧ (∀ M : Mem, 0 < List.length ns) ∧ (∀ M : Mem, (0 : Int) ≤ gI ns 0 ∧ gI ns 0 < (↑(List.length l) : Int)) ∧ (∀ M : Mem, Int.toNat (gI ns 0) < List.length l) ∧ (∀ M : Mem, (0 : Int) ≤ (0 : Int) ∧ (0 : Int) < (4 : Int)) ∧ (∀ M : Mem, 0 + 4 ≤ 16) ∧ bif decide ((1 : Int) < (↑(List.length ns) : Int)) then (∀ M : Mem, (0 : Int) ≤ (1 : Int) ∧ (1 : Int) < (↑(List.length ns) : Int)) ∧ (∀ M : Mem, 1 < List.length ns) ∧ (∀ M : Mem, (0 : Int) ≤ gI ns 1 ∧ gI ns 1 < (↑(List.length l) : Int)) ∧ (∀ M : Mem, Int.toNat (gI ns 1) < List.length l) ∧ (∀ M : Mem, (0 : Int) ≤ (1 : Int) ∧ (1 : Int) < (4 : Int)) ∧ (∀ M : Mem, 4 + 4 ≤ 16) ∧ bif decide ((2 : Int) < (↑(List.length ns) : Int)) then (∀ M : Mem, (0 : Int) ≤ (2 : Int) ∧ (2 : Int) < (↑(List.length ns) : Int)) ∧ (∀ M : Mem, 2 < List.length ns) ∧ (∀ M : Mem, (0 : Int) ≤ gI ns 2 ∧ gI ns 2 < (↑(List.length l) : Int)) ∧ (∀ M : Mem, Int.toNat (gI ns 2) < List.length l) ∧ (∀ M : Mem, (0 : Int) ≤ (2 : Int) ∧ (2 : Int) < (4 : Int)) ∧ (∀ M : Mem, 8 + 4 ≤ 16) ∧ bif decide ((3 : Int) < (↑(List.length ns) : Int)) then (∀ M : Mem, (0 : Int) ≤ (3 : Int) ∧ (3 : Int) < (↑(List.length ns) : Int)) ∧ (∀ M : Mem, 3 < List.length ns) ∧ (∀ M : Mem, (0 : Int) ≤ gI ns 3 ∧ gI ns 3 < (↑(List.length l) : Int)) ∧ (∀ M : Mem, Int.toNat (gI ns 3) < List.length l) ∧ (∀ M : Mem, (0 : Int) ≤ (3 : Int) ∧ (3 : Int) < (4 : Int)) ∧ (∀ M : Mem, 12 + 4 ≤ 16) ∧ bif decide ((4 : Int) < (↑(List.length ns) : Int)) then (∀ M : Mem, (0 : Int) ≤ (4 : Int) ∧ (4 : Int) < (↑(List.length ns) : Int)) ∧ (∀ M : Mem, 4 < List.length ns) ∧ (∀ M : Mem, (0 : Int) ≤ gI ns 4 ∧ gI ns 4 < (↑(List.length l) : Int)) ∧ (∀ M : Mem, Int.toNat (gI ns 4) < List.length l) ∧ (∀ M : Mem, (0 : Int) ≤ (4 : Int) ∧ (4 : Int) < (4 : Int)) ∧ (∀ M : Mem, 16 + 4 ≤ 16) ∧ False else (∀ M : Mem, 0 + 16 ≤ 16) ∧ R (.agg [.v (vu64 (↑(limb (gE l (Int.toNat (gI ns 0))) 0) : Int)), .v (vu64 (↑(limb (gE l (Int.toNat (gI ns 0))) 1) : Int)), .v (vu64 (↑(limb (gE l (Int.toNat (gI ns 0))) 2) : Int)), .v (vu64 (↑(limb (gE l (Int.toNat (gI ns 0))) 3) : Int)), .v (vu64 (↑(limb (gE l (Int.toNat (gI ns 1))) 0) : Int)), .v (vu64 (↑(limb (gE l (Int.toNat (gI ns 1))) 1) : Int)), .v (vu64 (↑(limb (gE l (Int.toNat (gI ns 1))) 2) : Int)), .v (vu64 (↑(limb (gE l (Int.toNat (gI ns 1))) 3) : Int)), .v (vu64 (↑(limb (gE l (Int.toNat (gI ns 2))) 0) : Int)), .v (vu64 (↑(limb (gE l (Int.toNat (gI ns 2))) 1) : Int)), .v (vu64 (↑(limb (gE l (Int.toNat (gI ns 2))) 2) : Int)), .v (vu64 (↑(limb (gE l (Int.toNat (gI ns 2))) 3) : Int)), .v (vu64 (↑(limb (gE l (Int.toNat (gI ns 3))) 0) : Int)), .v (vu64 (↑(limb (gE l (Int.toNat (gI ns 3))) 1) : Int)), .v (vu64 (↑(limb (gE l (Int.toNat (gI ns 3))) 2) : Int)), .v (vu64 (↑(limb (gE l (Int.toNat (gI ns 3))) 3) : Int))]) [] else (∀ M : Mem, 0 + 16 ≤ 16) ∧ R (.agg [.v (vu64 (↑(limb (gE l (Int.toNat (gI ns 0))) 0) : Int)), .v (vu64 (↑(limb (gE l (Int.toNat (gI ns 0))) 1) : Int)), .v (vu64 (↑(limb (gE l (Int.toNat (gI ns 0))) 2) : Int)), .v (vu64 (↑(limb (gE l (Int.toNat (gI ns 0))) 3) : Int)), .v (vu64 (↑(limb (gE l (Int.toNat (gI ns 1))) 0) : Int)), .v (vu64 (↑(limb (gE l (Int.toNat (gI ns 1))) 1) : Int)), .v (vu64 (↑(limb (gE l (Int.toNat (gI ns 1))) 2) : Int)), .v (vu64 (↑(limb (gE l (Int.toNat (gI ns 1))) 3) : Int)), .v (vu64 (↑(limb (gE l (Int.toNat (gI ns 2))) 0) : Int)), .v (vu64 (↑(limb (gE l (Int.toNat (gI ns 2))) 1) : Int)), .v (vu64 (↑(limb (gE l (Int.toNat (gI ns 2))) 2) : Int)), .v (vu64 (↑(limb (gE l (Int.toNat (gI ns 2))) 3) : Int)), .v (vu64 0), .v (vu64 0), .v (vu64 0), .v (vu64 0)]) [] else (∀ M : Mem, 0 + 16 ≤ 16) ∧ R (.agg [.v (vu64 (↑(limb (gE l (Int.toNat (gI ns 0))) 0) : Int)), .v (vu64 (↑(limb (gE l (Int.toNat (gI ns 0))) 1) : Int)), .v (vu64 (↑(limb (gE l (Int.toNat (gI ns 0))) 2) : Int)), .v (vu64 (↑(limb (gE l (Int.toNat (gI ns 0))) 3) : Int)), .v (vu64 (↑(limb (gE l (Int.toNat (gI ns 1))) 0) : Int)), .v (vu64 (↑(limb (gE l (Int.toNat (gI ns 1))) 1) : Int)), .v (vu64 (↑(limb (gE l (Int.toNat (gI ns 1))) 2) : Int)), .v (vu64 (↑(limb (gE l (Int.toNat (gI ns 1))) 3) : Int)), .v (vu64 0), .v (vu64 0), .v (vu64 0), .v (vu64 0), .v (vu64 0), .v (vu64 0), .v (vu64 0), .v (vu64 0)]) [] else (∀ M : Mem, 0 + 16 ≤ 16) ∧ R (.agg [.v (vu64 (↑(limb (gE l (Int.toNat (gI ns 0))) 0) : Int)), .v (vu64 (↑(limb (gE l (Int.toNat (gI ns 0))) 1) : Int)), .v (vu64 (↑(limb (gE l (Int.toNat (gI ns 0))) 2) : Int)), .v (vu64 (↑(limb (gE l (Int.toNat (gI ns 0))) 3) : Int)), .v (vu64 0), .v (vu64 0), .v (vu64 0), .v (vu64 0), .v (vu64 0), .v (vu64 0), .v (vu64 0), .v (vu64 0), .v (vu64 0), .v (vu64 0), .v (vu64 0), .v (vu64 0)]) [] else (∀ M : Mem, 16 ≤ 16) ∧ R (.agg [.v (vu64 0), .v (vu64 0), .v (vu64 0), .v (vu64 0), .v (vu64 0), .v (vu64 0), .v (vu64 0), .v (vu64 0), .v (vu64 0), .v (vu64 0), .v (vu64 0), .v (vu64 0), .v (vu64 0), .v (vu64 0), .v (vu64 0), .v (vu64 0)]) []) := by kernel_rfl
theorem bPk : Try.f72.body.isSome = true := by kernel_rfl
theorem nPk : Nat.ble [SV.x 0 [], .x 1 []].length Try.f72.ntmps = true := by kernel_rfl
theorem pk_ok (b0 b1 : Bool) (l : List Nat) (ns : List Int) (h4 : ns.length ≤ 4) (hg : ∀ g ∈ ns, 0 ≤ g ∧ g < (l.length : Int)) (Q : SV → List HO → Prop) (hq : Q (.agg [.v (.int .u64 (limb (tkN l ns 0) 0 : Nat)), .v (.int .u64 (limb (tkN l ns 0) 1 : Nat)), .v (.int .u64 (limb (tkN l ns 0) 2 : Nat)), .v (.int .u64 (limb (tkN l ns 0) 3 : Nat)), .v (.int .u64 (limb (tkN l ns 1) 0 : Nat)), .v (.int .u64 (limb (tkN l ns 1) 1 : Nat)), .v (.int .u64 (limb (tkN l ns 1) 2 : Nat)), .v (.int .u64 (limb (tkN l ns 1) 3 : Nat)), .v (.int .u64 (limb (tkN l ns 2) 0 : Nat)), .v (.int .u64 (limb (tkN l ns 2) 1 : Nat)), .v (.int .u64 (limb (tkN l ns 2) 2 : Nat)), .v (.int .u64 (limb (tkN l ns 2) 3 : Nat)), .v (.int .u64 (limb (tkN l ns 3) 0 : Nat)), .v (.int .u64 (limb (tkN l ns 3) 1 : Nat)), .v (.int .u64 (limb (tkN l ns 3) 2 : Nat)), .v (.int .u64 (limb (tkN l ns 3) 3 : Nat))]) []) : FnOk Try.prog 72 [.x 0 [], .x 1 []] [.ext b0 (.s false 4 l.length (cE l)), .ext b1 (.s false 1 ns.length (cI ns))] Q := by
  refine fn_of_ok Try.func72 bPk ?_ ?_
  · exact nPk
  refine run_sound hm 60 ((pkS b0 b1 l ns _ _).mpr ⟨?_⟩)
  have g : ∀ j, j < ns.length → 0 ≤ gI ns j ∧ gI ns j < (l.length : Int) := fun j hj => hg _ (gI_mem hj)
  simp only [cond_dec]
  refine ite_intro (fun h0 => ?_) (fun h0 => ?_)
  · have g0 := g 0 (by omega)
    refine And.intro (fun _ => by omega) (And.intro (fun _ => by omega) (And.intro (fun _ => by omega) (And.intro (fun _ => by omega) (And.intro (fun _ => by omega) (And.intro (fun _ => by omega) (ite_intro (fun h1 => ?_) (fun h1 => ?_)))))))
    · have g1 := g 1 (by omega)
      refine And.intro (fun _ => by omega) (And.intro (fun _ => by omega) (And.intro (fun _ => by omega) (And.intro (fun _ => by omega) (And.intro (fun _ => by omega) (And.intro (fun _ => by omega) (ite_intro (fun h2 => ?_) (fun h2 => ?_)))))))
      · have g2 := g 2 (by omega)
        refine And.intro (fun _ => by omega) (And.intro (fun _ => by omega) (And.intro (fun _ => by omega) (And.intro (fun _ => by omega) (And.intro (fun _ => by omega) (And.intro (fun _ => by omega) (ite_intro (fun h3 => ?_) (fun h3 => ?_)))))))
        · have g3 := g 3 (by omega)
          refine And.intro (fun _ => by omega) (And.intro (fun _ => by omega) (And.intro (fun _ => by omega) (And.intro (fun _ => by omega) (And.intro (fun _ => by omega) (And.intro (fun _ => by omega) (ite_intro (fun h5 => absurd h5 (by omega)) (fun h5 => ?_)))))))
          rw [show tkN l ns 0 = gE l (gI ns 0).toNat from if_pos (by omega)] at hq
          rw [show tkN l ns 1 = gE l (gI ns 1).toNat from if_pos (by omega)] at hq
          rw [show tkN l ns 2 = gE l (gI ns 2).toNat from if_pos (by omega)] at hq
          rw [show tkN l ns 3 = gE l (gI ns 3).toNat from if_pos (by omega)] at hq
          exact And.intro (fun _ => by omega) hq
        · skip
          rw [show tkN l ns 0 = gE l (gI ns 0).toNat from if_pos (by omega)] at hq
          rw [show tkN l ns 1 = gE l (gI ns 1).toNat from if_pos (by omega)] at hq
          rw [show tkN l ns 2 = gE l (gI ns 2).toNat from if_pos (by omega)] at hq
          rw [show tkN l ns 3 = 0 from if_neg (by omega)] at hq
          simp only [limb_zero] at hq
          exact And.intro (fun _ => by omega) hq
      · skip
        rw [show tkN l ns 0 = gE l (gI ns 0).toNat from if_pos (by omega)] at hq
        rw [show tkN l ns 1 = gE l (gI ns 1).toNat from if_pos (by omega)] at hq
        rw [show tkN l ns 2 = 0 from if_neg (by omega)] at hq
        rw [show tkN l ns 3 = 0 from if_neg (by omega)] at hq
        simp only [limb_zero] at hq
        exact And.intro (fun _ => by omega) hq
    · skip
      rw [show tkN l ns 0 = gE l (gI ns 0).toNat from if_pos (by omega)] at hq
      rw [show tkN l ns 1 = 0 from if_neg (by omega)] at hq
      rw [show tkN l ns 2 = 0 from if_neg (by omega)] at hq
      rw [show tkN l ns 3 = 0 from if_neg (by omega)] at hq
      simp only [limb_zero] at hq
      exact And.intro (fun _ => by omega) hq
  · skip
    rw [show tkN l ns 0 = 0 from if_neg (by omega)] at hq
    rw [show tkN l ns 1 = 0 from if_neg (by omega)] at hq
    rw [show tkN l ns 2 = 0 from if_neg (by omega)] at hq
    rw [show tkN l ns 3 = 0 from if_neg (by omega)] at hq
    simp only [limb_zero] at hq
    exact And.intro (fun _ => by omega) hq
noncomputable def gPk : List SV → List HO → Option ((SV → List HO → Prop) → Prop)
  | [.x 0 [], .x 1 []], [.ext _ (.s false 4 nl cl), .ext _ (.s false 1 nn cn)] => some fun Q => lTk nl nn cl cn fun l ns => Q (.agg [.v (.int .u64 (limb (tkN l ns 0) 0 : Nat)), .v (.int .u64 (limb (tkN l ns 0) 1 : Nat)), .v (.int .u64 (limb (tkN l ns 0) 2 : Nat)), .v (.int .u64 (limb (tkN l ns 0) 3 : Nat)), .v (.int .u64 (limb (tkN l ns 1) 0 : Nat)), .v (.int .u64 (limb (tkN l ns 1) 1 : Nat)), .v (.int .u64 (limb (tkN l ns 1) 2 : Nat)), .v (.int .u64 (limb (tkN l ns 1) 3 : Nat)), .v (.int .u64 (limb (tkN l ns 2) 0 : Nat)), .v (.int .u64 (limb (tkN l ns 2) 1 : Nat)), .v (.int .u64 (limb (tkN l ns 2) 2 : Nat)), .v (.int .u64 (limb (tkN l ns 2) 3 : Nat)), .v (.int .u64 (limb (tkN l ns 3) 0 : Nat)), .v (.int .u64 (limb (tkN l ns 3) 1 : Nat)), .v (.int .u64 (limb (tkN l ns 3) 2 : Nat)), .v (.int .u64 (limb (tkN l ns 3) 3 : Nat))]) []
  | _, _ => none
theorem gPk_ok (args : List SV) (h : List HO) (tr : (SV → List HO → Prop) → Prop) (Q : SV → List HO → Prop) (hc : gPk args h = some tr) (ht : tr Q) : FnOk Try.prog 72 args h Q := by
  unfold gPk at hc
  split at hc
  · simp only [Option.some.injEq] at hc
    subst hc
    obtain ⟨l, ns, rfl, e0, rfl, e1, h4, hg, hq⟩ := ht.h
    exact FnOk.ac (pk_ok _ _ l ns h4 hg Q hq) ⟨⟨rfl, rfl, rfl, rfl, e0⟩, ⟨rfl, rfl, rfl, rfl, e1⟩, trivial⟩
  · cases hc
noncomputable def K77 : Con Try.prog := K76.add 72 gPk gPk_ok
end Go.Proofs.Ytlmjdcbhpffanaa
