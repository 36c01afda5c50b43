/- The number of a text: states. -/
import Derived.Test.YtcipmpamhffclaaP1
namespace Go.Proofs.Ytcipmpamhffclaa
open Go.Sx Go.Pl Go.RowKit
def qP : List Nat := [0,0,1,0,1,1,1,1,1,1,1]
noncomputable def stP (s : ByteArray) (y a i z : Nat) (g : Bool) : St :=
  ⟨[(27, .p 2 0), (8, .v (.int .i32 (z : Int))), (9, .v (.bool g)), (7, .p 1 0), (4, .v (.int .u64 (y : Int))), (2, .p 0 0), (3, .v (.int .i64 0))], [.cells (ec 0) 24, .cells (ec a) 24, .obj (.stringIter s i)]⟩
end Go.Proofs.Ytcipmpamhffclaa

namespace Go.Pl
open Go.Sx
theorem decode_bounds (s : ByteArray) (i : Nat) : (Utf8.decode s i).1 < 2147483648 ∧ 1 ≤ (Utf8.decode s i).2 := by
  have a0 := at8_lt s i
  have a1 := at8_lt s (i + 1)
  have a2 := at8_lt s (i + 2)
  have a3 := at8_lt s (i + 3)
  rw [decode_eq]
  generalize at8 s i = x0, at8 s (i + 1) = x1, at8 s (i + 2) = x2, at8 s (i + 3) = x3 at *
  repeat' split
  all_goals (constructor <;> simp only <;> omega)
theorem zel : Value.agg (Array.mk [Value.int IntKind.u64 (0 : Int), Value.int IntKind.u64 (0 : Int), Value.int IntKind.u64 (0 : Int), Value.int IntKind.u64 (0 : Int)]) = el 0 := by
  simp [el, limb, hide_eq]
/-- The number of a text from its beginning, and its error. -/
noncomputable def pRes (y : Nat) (s : ByteArray) : Nat × Nat := prs y s (s.size + 1) 0 0 true false
end Go.Pl
namespace Go.Proofs.Ytcipmpamhffclaa
open Go.Sx Go.Pl Go.RowKit
theorem parE1 (s : ByteArray) (y a i z M : Nat) (g : Bool) : (((xgo Try.prog X (bodyOf Try.f22) 71 TI [] 60 [.f, .t] ((.nil)) [.at qP, .rnd qP (M + 1), .blk 0, .at [1,1,1,1,1,1,1,1]] (stP s y a i z g) [] []).bind (ends Try.prog Try.f22.results.toList)).bind plainE) =
  some [EndP.mk [] [fun _ => ¬i < ByteArray.size s,
    fun _ => ((↑z : Int) == (95 : Int)) = true,
    fun _ => (4 : Nat) ≤ (4 : Nat)] (Res.v (Value.tuple (Array.mk [Value.agg (Array.mk [Value.int IntKind.u64 (0 : Int), Value.int IntKind.u64 (0 : Int), Value.int IntKind.u64 (0 : Int), Value.int IntKind.u64 (0 : Int)]), Value.int IntKind.i64 (11 : Int)])))]
  := by kernel_rfl

theorem parE2 (s : ByteArray) (y a i z M : Nat) (g : Bool) : (((xgo Try.prog X (bodyOf Try.f22) 71 TI [] 60 [.f, .f, .t] ((.nil)) [.at qP, .rnd qP (M + 1), .blk 0, .at [1,1,1,1,1,1,1,1]] (stP s y a i z g) [] []).bind (ends Try.prog Try.f22.results.toList)).bind plainE) =
  some [EndP.mk [] [fun _ => ¬i < ByteArray.size s,
    fun _ => ((↑z : Int) == (95 : Int)) = false,
    fun _ => g = true,
    fun _ => (4 : Nat) ≤ (4 : Nat)] (Res.v (Value.tuple (Array.mk [Value.agg (Array.mk [Value.int IntKind.u64 (0 : Int), Value.int IntKind.u64 (0 : Int), Value.int IntKind.u64 (0 : Int), Value.int IntKind.u64 (0 : Int)]), Value.int IntKind.i64 (12 : Int)])))]
  := by kernel_rfl

theorem parE3 (s : ByteArray) (y a i z M : Nat) (g : Bool) : (((xgo Try.prog X (bodyOf Try.f22) 71 TI [] 60 [.f, .f, .f] ((.nil)) [.at qP, .rnd qP (M + 1), .blk 0, .at [1,1,1,1,1,1,1,1]] (stP s y a i z g) [] []).bind (ends Try.prog Try.f22.results.toList)).bind plainE) =
  some [EndP.mk [] [fun _ => ¬i < ByteArray.size s,
    fun _ => ((↑z : Int) == (95 : Int)) = false,
    fun _ => g = false,
    fun _ => (0 : Nat) + (4 : Nat) ≤ (4 : Nat)] (Res.v (Value.tuple (Array.mk [el a, Value.int IntKind.i64 (0 : Int)])))]
  := by kernel_rfl

theorem parX1 (s : ByteArray) (c y a i z M : Nat) (g : Bool) : (((xgo Try.prog X (bodyOf Try.f22) 71 TI [] 60 [.t, .as 30 (.v (.int .i32 (c : Int))), .t, .f, .t, .t] ((.nil)) [.at qP, .rnd qP (M + 1), .blk 0, .at [1,1,1,1,1,1,1,1]] (stP s y a i z g) [] []).bind (ends Try.prog Try.f22.results.toList)).bind plainE) =
  some [EndP.mk [] [fun _ => i < ByteArray.size s,
    fun _ => Value.int IntKind.i32 (↑(Utf8.decode s i).1 : Int) = Value.int IntKind.i32 (↑c : Int),
    fun _ => ((↑c : Int) == (95 : Int)) = true,
    fun _ => (!(↑z : Int) == (95 : Int)) = false,
    fun _ => (↑c : Int) = (↑(Int.toNat (↑c : Int)) : Int) ∧ (↑y : Int) = (↑(Int.toNat (↑y : Int)) : Int) ∧ Int.toNat (↑c : Int) < (2147483648 : Nat),
    fun _ => (!dgtB (Int.toNat (↑y : Int)) (Int.toNat (↑c : Int))) = true,
    fun _ => true = true,
    fun _ => (4 : Nat) ≤ (4 : Nat)] (Res.v (Value.tuple (Array.mk [Value.agg (Array.mk [Value.int IntKind.u64 (0 : Int), Value.int IntKind.u64 (0 : Int), Value.int IntKind.u64 (0 : Int), Value.int IntKind.u64 (0 : Int)]), Value.int IntKind.i64 (11 : Int)])))]
  := by kernel_rfl

theorem parX2 (s : ByteArray) (c y a i z M : Nat) (g : Bool) : (((xgo Try.prog X (bodyOf Try.f22) 71 TI [] 60 [.t, .as 30 (.v (.int .i32 (c : Int))), .f, .f, .t, .t] ((.nil)) [.at qP, .rnd qP (M + 1), .blk 0, .at [1,1,1,1,1,1,1,1]] (stP s y a i z g) [] []).bind (ends Try.prog Try.f22.results.toList)).bind plainE) =
  some [EndP.mk [] [fun _ => i < ByteArray.size s,
    fun _ => Value.int IntKind.i32 (↑(Utf8.decode s i).1 : Int) = Value.int IntKind.i32 (↑c : Int),
    fun _ => ((↑c : Int) == (95 : Int)) = false,
    fun _ => false = false,
    fun _ => (↑c : Int) = (↑(Int.toNat (↑c : Int)) : Int) ∧ (↑y : Int) = (↑(Int.toNat (↑y : Int)) : Int) ∧ Int.toNat (↑c : Int) < (2147483648 : Nat),
    fun _ => (!dgtB (Int.toNat (↑y : Int)) (Int.toNat (↑c : Int))) = true,
    fun _ => true = true,
    fun _ => (4 : Nat) ≤ (4 : Nat)] (Res.v (Value.tuple (Array.mk [Value.agg (Array.mk [Value.int IntKind.u64 (0 : Int), Value.int IntKind.u64 (0 : Int), Value.int IntKind.u64 (0 : Int), Value.int IntKind.u64 (0 : Int)]), Value.int IntKind.i64 (11 : Int)])))]
  := by kernel_rfl

theorem parS (s : ByteArray) (c y a i z M : Nat) (g : Bool) (kt : List It) : ((xgo Try.prog X (bodyOf Try.f22) 71 TI [] 60 [.t, .as 30 (.v (.int .i32 (c : Int))), .t, .t] ((.nil)) (.at qP :: .rnd qP (M + 1) :: kt) (stP s y a i z g) [] []).map (trims [27, 8, 9, 7, 4, 2, 3])) =
  some [Leaf2.mk [] [fun _ => i < ByteArray.size s,
    fun _ => Value.int IntKind.i32 (↑(Utf8.decode s i).1 : Int) = Value.int IntKind.i32 (↑c : Int),
    fun _ => ((↑c : Int) == (95 : Int)) = true,
    fun _ => (!(↑z : Int) == (95 : Int)) = true] (It.rnd [(0 : Nat), (0 : Nat), (1 : Nat), (0 : Nat), (1 : Nat), (1 : Nat), (1 : Nat), (1 : Nat), (1 : Nat), (1 : Nat), (1 : Nat)] (M + (1 : Nat)) :: kt) (St.mk [((27 : Nat), SV.p (2 : Nat) (0 : Nat)), ((8 : Nat), SV.v (Value.int IntKind.i32 (↑c : Int))), ((9 : Nat), SV.v (Value.bool g)), ((7 : Nat), SV.p (1 : Nat) (0 : Nat)), ((4 : Nat), SV.v (Value.int IntKind.u64 (↑y : Int))), ((2 : Nat), SV.p (0 : Nat) (0 : Nat)), ((3 : Nat), SV.v (Value.int IntKind.i64 (0 : Int)))] [HO.cells (ec (0 : Nat)) (24 : Nat), HO.cells (ec a) (24 : Nat), HO.obj (Obj.stringIter s (i + (Utf8.decode s i).2))])]
  := by kernel_rfl

theorem parDt (s : ByteArray) (c y a i z M : Nat) (kt : List It) : ((xgo Try.prog X (bodyOf Try.f22) 71 TI [] 60 [.t, .as 30 (.v (.int .i32 (c : Int))), .f, .f, .f, .f, .t] ((.nil)) (.at qP :: .rnd qP (M + 1) :: kt) (stP s y a i z true) [] []).map (trims [27, 8, 9, 7, 4, 2, 3])) =
  some [Leaf2.mk [] [fun _ => i < ByteArray.size s,
    fun _ => Value.int IntKind.i32 (↑(Utf8.decode s i).1 : Int) = Value.int IntKind.i32 (↑c : Int),
    fun _ => ((↑c : Int) == (95 : Int)) = false,
    fun _ => false = false,
    fun _ => (↑c : Int) = (↑(Int.toNat (↑c : Int)) : Int) ∧ (↑y : Int) = (↑(Int.toNat (↑y : Int)) : Int) ∧ Int.toNat (↑c : Int) < (2147483648 : Nat),
    fun _ => (!dgtB (Int.toNat (↑y : Int)) (Int.toNat (↑c : Int))) = false,
    fun _ => ((↑c : Int) == (65533 : Int)) = false,
    fun _ => el a = el (elN a) ∧ elN a < top ∧ (↑y : Int) = (↑(Int.toNat (↑y : Int)) : Int) ∧ (↑(dgtV (Int.toNat (↑y : Int)) (Int.toNat (↑c : Int))) : Int) = (↑(Int.toNat (↑(dgtV (Int.toNat (↑y : Int)) (Int.toNat (↑c : Int))) : Int)) : Int) ∧ Int.toNat (↑y : Int) < (18446744073709551616 : Nat) ∧ Int.toNat (↑(dgtV (Int.toNat (↑y : Int)) (Int.toNat (↑c : Int))) : Int) < (18446744073709551616 : Nat),
    fun _ => (0 : Nat) + (4 : Nat) ≤ (4 : Nat),
    fun _ => true = true] (It.rnd [(0 : Nat), (0 : Nat), (1 : Nat), (0 : Nat), (1 : Nat), (1 : Nat), (1 : Nat), (1 : Nat), (1 : Nat), (1 : Nat), (1 : Nat)] (M + (1 : Nat)) :: kt) (St.mk [((27 : Nat), SV.p (2 : Nat) (0 : Nat)), ((8 : Nat), SV.v (Value.int IntKind.i32 (↑c : Int))), ((9 : Nat), SV.v (Value.bool true)), ((7 : Nat), SV.p (1 : Nat) (0 : Nat)), ((4 : Nat), SV.v (Value.int IntKind.u64 (↑y : Int))), ((2 : Nat), SV.p (0 : Nat) (0 : Nat)), ((3 : Nat), SV.v (Value.int IntKind.i64 (0 : Int)))] [HO.cells (ec (0 : Nat)) (24 : Nat), HO.cells (ec ((elN a * Int.toNat (↑y : Int) + Int.toNat (↑(dgtV (Int.toNat (↑y : Int)) (Int.toNat (↑c : Int))) : Int)) % top)) (24 : Nat), HO.obj (Obj.stringIter s (i + (Utf8.decode s i).2))])]
  := by kernel_rfl

theorem parDf (s : ByteArray) (c y a i z M : Nat) (kt : List It) : ((xgo Try.prog X (bodyOf Try.f22) 71 TI [] 60 [.t, .as 30 (.v (.int .i32 (c : Int))), .f, .f, .f, .f, .f] ((.nil)) (.at qP :: .rnd qP (M + 1) :: kt) (stP s y a i z false) [] []).map (trims [27, 8, 9, 7, 4, 2, 3])) =
  some [Leaf2.mk [] [fun _ => i < ByteArray.size s,
    fun _ => Value.int IntKind.i32 (↑(Utf8.decode s i).1 : Int) = Value.int IntKind.i32 (↑c : Int),
    fun _ => ((↑c : Int) == (95 : Int)) = false,
    fun _ => false = false,
    fun _ => (↑c : Int) = (↑(Int.toNat (↑c : Int)) : Int) ∧ (↑y : Int) = (↑(Int.toNat (↑y : Int)) : Int) ∧ Int.toNat (↑c : Int) < (2147483648 : Nat),
    fun _ => (!dgtB (Int.toNat (↑y : Int)) (Int.toNat (↑c : Int))) = false,
    fun _ => ((↑c : Int) == (65533 : Int)) = false,
    fun _ => el a = el (elN a) ∧ elN a < top ∧ (↑y : Int) = (↑(Int.toNat (↑y : Int)) : Int) ∧ (↑(dgtV (Int.toNat (↑y : Int)) (Int.toNat (↑c : Int))) : Int) = (↑(Int.toNat (↑(dgtV (Int.toNat (↑y : Int)) (Int.toNat (↑c : Int))) : Int)) : Int) ∧ Int.toNat (↑y : Int) < (18446744073709551616 : Nat) ∧ Int.toNat (↑(dgtV (Int.toNat (↑y : Int)) (Int.toNat (↑c : Int))) : Int) < (18446744073709551616 : Nat),
    fun _ => (0 : Nat) + (4 : Nat) ≤ (4 : Nat),
    fun _ => false = false] (It.rnd [(0 : Nat), (0 : Nat), (1 : Nat), (0 : Nat), (1 : Nat), (1 : Nat), (1 : Nat), (1 : Nat), (1 : Nat), (1 : Nat), (1 : Nat)] (M + (1 : Nat)) :: kt) (St.mk [((27 : Nat), SV.p (2 : Nat) (0 : Nat)), ((8 : Nat), SV.v (Value.int IntKind.i32 (↑c : Int))), ((9 : Nat), SV.v (Value.bool (decide (top ≤ elN a * Int.toNat (↑y : Int) + Int.toNat (↑(dgtV (Int.toNat (↑y : Int)) (Int.toNat (↑c : Int))) : Int))))), ((7 : Nat), SV.p (1 : Nat) (0 : Nat)), ((4 : Nat), SV.v (Value.int IntKind.u64 (↑y : Int))), ((2 : Nat), SV.p (0 : Nat) (0 : Nat)), ((3 : Nat), SV.v (Value.int IntKind.i64 (0 : Int)))] [HO.cells (ec (0 : Nat)) (24 : Nat), HO.cells (ec ((elN a * Int.toNat (↑y : Int) + Int.toNat (↑(dgtV (Int.toNat (↑y : Int)) (Int.toNat (↑c : Int))) : Int)) % top)) (24 : Nat), HO.obj (Obj.stringIter s (i + (Utf8.decode s i).2))])]
  := by kernel_rfl


/-- What Parse answers, as a value. -/
noncomputable def pVal (r : Nat × Nat) : Value := .tuple #[el r.1, .int .i64 ((r.2 : Nat) : Int)]
theorem par_loop {w : World} (s : ByteArray) (y : Nat) (hy : y = 10 ∨ y = 16) (R : Res → Prop) : ∀ (k i a z : Nat) (g : Bool), a < top → s.size ≤ i + k → R (.v (pVal (prs y s (k + 1) i a (decide (z = 95)) g))) →
    Ok Try.prog (bodyOf Try.f22) 71 (F0 w) w (bodyPost Try.prog Try.f22 fun E w' => ∃ v r, E = .returned v ∧ R r ∧ r.ok w w' v ∧ Below w.heap.size w w') (.rnd qP (k + 2) :: [.blk 0, .at [1,1,1,1,1,1,1,1]]) (stP s y a i z g) := by
  intro k i a z g ha hk hR
  have hF := F0.mono w
  by_cases hi : s.size ≤ i
  · rw [prs, if_pos hi] at hR
    by_cases hz : z = 95
    · rw [decide_eq_true hz, if_pos rfl] at hR
      refine Ok.rnd (ok_plain hm hF (fun _ h => h) 60 _ _ _ _ (parE1 s y a i z k g) ⟨fun _ => ⟨?_, ?_⟩, trivial⟩)
      · simp only [hold_cons, hold_nil, and_true]
        exact ⟨fun _ _ => by omega, fun _ _ => beq_iff_eq.2 (by omega), fun _ _ => by omega⟩
      · rw [zel]; exact hR
    · rw [decide_eq_false hz, if_neg (by simp)] at hR
      cases g with
      | true =>
        rw [if_pos rfl] at hR
        refine Ok.rnd (ok_plain hm hF (fun _ h => h) 60 _ _ _ _ (parE2 s y a i z k true) ⟨fun _ => ⟨?_, ?_⟩, trivial⟩)
        · simp only [hold_cons, hold_nil, and_true]
          exact ⟨fun _ _ => by omega, fun _ _ => beq_eq_false_iff_ne.2 (by omega), fun _ _ => trivial, fun _ _ => by omega⟩
        · rw [zel]; exact hR
      | false =>
        rw [if_neg (by simp)] at hR
        refine Ok.rnd (ok_plain hm hF (fun _ h => h) 60 _ _ _ _ (parE3 s y a i z k false) ⟨fun _ => ⟨?_, ?_⟩, trivial⟩)
        · simp only [hold_cons, hold_nil, and_true]
          exact ⟨fun _ _ => by omega, fun _ _ => beq_eq_false_iff_ne.2 (by omega), fun _ _ => trivial, fun _ _ => by omega⟩
        · exact hR
  · obtain ⟨k, rfl⟩ : ∃ j, k = j + 1 := ⟨k - 1, by omega⟩
    have hdb := decode_bounds s i
    have hst := decode_stroke s i
    have hdd := dig_dgt y s i
    rw [prs, if_neg hi] at hR
    generalize hc : (Utf8.decode s i).1 = c at *
    generalize hn : (Utf8.decode s i).2 = n at *
    by_cases h95 : c = 95
    · have h8 := hst.1 h95
      have hn1 : n = 1 := by rw [← hn, decode_low s i (by omega)]
      rw [if_pos h8] at hR
      by_cases hz : z = 95
      · rw [decide_eq_true hz, if_pos rfl] at hR
        have hg : dgtB y c = false := by rw [dgtB_eq, h95]; rcases hy with h | h <;> subst h <;> rfl
        refine Ok.rnd (ok_plain hm hF (fun _ h => h) 60 _ _ _ _ (parX1 s c y a i z (k + 1) g) ⟨fun _ => ⟨?_, ?_⟩, trivial⟩)
        · simp only [hold_cons, hold_nil, and_true, Int.toNat_natCast, hg, hc]
          exact ⟨fun _ _ => by omega, fun _ _ => trivial, fun _ _ => beq_iff_eq.2 (by omega), fun _ _ => by rw [hz]; rfl, fun _ _ => ⟨trivial, trivial, hdb.1⟩, fun _ _ => rfl, fun _ _ => trivial, fun _ _ => by omega⟩
        · rw [zel]; exact hR
      · rw [decide_eq_false hz, if_neg (by simp)] at hR
        refine Ok.rnd (xgo_trim hm hF finB 60 _ _ _ _ _ _ (parS s c y a i z (k + 1) g _) (paidCons (fun _ => ⟨?_, ?_⟩) paidNil))
        · simp only [hold_cons, hold_nil, and_true, hc]
          exact ⟨fun _ _ => by omega, fun _ _ => trivial, fun _ _ => beq_iff_eq.2 (by omega), fun _ _ => by rw [beq_eq_false_iff_ne.2 (by omega)]; rfl⟩
        · refine ok_mono (st := stP s y a (i + n) c g) (by rw [← hn]; rfl) (par_loop s y hy R k (i + n) a c g ha (by omega) ?_)
          rw [hn1, decide_eq_true h95]
          exact hR
    · have h8 : ¬ at8 s i = 95 := fun h => h95 (hst.2 h)
      rw [if_neg h8, hdd] at hR
      cases hd : dgt y c with
      | none =>
        rw [hd] at hR
        have hg : dgtB y c = false := by rw [dgtB_eq, hd]; rfl
        refine Ok.rnd (ok_plain hm hF (fun _ h => h) 60 _ _ _ _ (parX2 s c y a i z (k + 1) g) ⟨fun _ => ⟨?_, ?_⟩, trivial⟩)
        · simp only [hold_cons, hold_nil, and_true, Int.toNat_natCast, hg, hc]
          exact ⟨fun _ _ => by omega, fun _ _ => trivial, fun _ _ => beq_eq_false_iff_ne.2 (by omega), fun _ _ => trivial, fun _ _ => ⟨trivial, trivial, hdb.1⟩, fun _ _ => rfl, fun _ _ => trivial, fun _ _ => by omega⟩
        · rw [zel]; exact hR
      | some d =>
        rw [hd] at hR
        have hg : dgtB y c = true := by rw [dgtB_eq, hd]; rfl
        have hv : dgtV y c = d := by rw [dgtV_eq, hd]; rfl
        have hd16 := dgt_lt hd
        have hne : c ≠ 65533 := by
          intro h; rw [h] at hd
          rcases hy with h | h <;> subst h <;> simp [dgt] at hd
        have hlt : (a * y + d) % top < top := Nat.mod_lt _ top_pos
        have hy64 : y < 18446744073709551616 := by omega
        have fin := par_loop (w := w) s y hy R k (i + n) ((a * y + d) % top) c (g || decide (top ≤ a * y + d)) hlt (by omega) (by rw [decide_eq_false h95]; exact hR)
        cases g with
        | true =>
          refine Ok.rnd (xgo_trim hm hF finB 60 _ _ _ _ _ _ (parDt s c y a i z (k + 1) _) (paidCons (fun _ => ⟨?_, ?_⟩) paidNil))
          · simp only [hold_cons, hold_nil, and_true, Int.toNat_natCast, hg, hv, elN_eq ha, hc]
            exact ⟨fun _ _ => by omega, fun _ _ => trivial, fun _ _ => beq_eq_false_iff_ne.2 (by omega), fun _ _ => trivial, fun _ _ => ⟨trivial, trivial, hdb.1⟩, fun _ _ => rfl, fun _ _ => beq_eq_false_iff_ne.2 (by omega), fun _ _ => ⟨trivial, ha, trivial, trivial, hy64, by omega⟩, fun _ _ => by omega, fun _ _ => trivial⟩
          · simp only [Int.toNat_natCast, hv, elN_eq ha, hn]
            exact fin
        | false =>
          refine Ok.rnd (xgo_trim hm hF finB 60 _ _ _ _ _ _ (parDf s c y a i z (k + 1) _) (paidCons (fun _ => ⟨?_, ?_⟩) paidNil))
          · simp only [hold_cons, hold_nil, and_true, Int.toNat_natCast, hg, hv, elN_eq ha, hc]
            exact ⟨fun _ _ => by omega, fun _ _ => trivial, fun _ _ => beq_eq_false_iff_ne.2 (by omega), fun _ _ => trivial, fun _ _ => ⟨trivial, trivial, hdb.1⟩, fun _ _ => rfl, fun _ _ => beq_eq_false_iff_ne.2 (by omega), fun _ _ => ⟨trivial, ha, trivial, trivial, hy64, by omega⟩, fun _ _ => by omega, fun _ _ => trivial⟩
          · simp only [Int.toNat_natCast, hv, elN_eq ha, hn]
            exact fin
termination_by k => k
end Go.Proofs.Ytcipmpamhffclaa

namespace Go.Pl
open Go.Sx
/-- The sign of sixteens. -/
def sg16 : ByteArray := ByteArray.mk (Array.mk [48, 120])
/-- The number of a text, and its error. -/
noncomputable def pAll (s : ByteArray) : Nat × Nat := if 100000 < s.size then (0, 12) else if hasPre s sg16 = true then pRes 16 (s.extract 2 s.size) else pRes 10 s
noncomputable def pN (s : ByteArray) : Nat := hide (pAll s).1
noncomputable def pE (s : ByteArray) : Nat := hide (pAll s).2
theorem tpos : 0 < top := by decide +kernel
theorem prs_lt (y : Nat) (s : ByteArray) : ∀ (k i a : Nat) (z g : Bool), a < top → (prs y s k i a z g).1 < top
  | 0, _, _, _, _, _ => by rw [prs]; exact tpos
  | k + 1, i, a, z, g, ha => by
    rw [prs]
    repeat' split
    all_goals first | exact tpos | exact ha | exact prs_lt y s k _ _ _ _ (Nat.mod_lt _ tpos) | exact prs_lt y s k _ _ _ _ ha
theorem pN_lt (s : ByteArray) : pN s < top := by
  rw [pN, hide_eq, pAll]
  repeat' split
  · exact tpos
  · exact prs_lt _ _ _ _ _ _ _ tpos
  · exact prs_lt _ _ _ _ _ _ _ tpos
end Go.Pl
namespace Go.Proofs.Ytcipmpamhffclaa
open Go.Sx Go.Pl Go.RowKit
theorem parB16 (s : ByteArray) : ((xgo Try.prog X (bodyOf Try.f22) 71 TI [] 60 [.f, .t] ((.nil)) [.at []] ⟨argsTm 0 [.string s], []⟩ [] []).map (trims [27, 8, 9, 7, 4, 2, 3])) =
  some [Leaf2.mk [] [fun _ => decide ((100000 : Int) < (↑(ByteArray.size s) : Int)) = false,
    fun _ => True,
    fun _ => hasPre s (ByteArray.mk (Array.mk [OfNat.ofNat (48 : Nat), OfNat.ofNat (120 : Nat)])) = true] [It.at [(0 : Nat), (1 : Nat), (0 : Nat), (1 : Nat), (1 : Nat), (1 : Nat), (1 : Nat), (1 : Nat), (1 : Nat), (1 : Nat)], It.blk (0 : Nat), It.at [(1 : Nat), (1 : Nat), (1 : Nat), (1 : Nat), (1 : Nat), (1 : Nat), (1 : Nat), (1 : Nat)]] (St.mk [((27 : Nat), SV.p (2 : Nat) (0 : Nat)), ((8 : Nat), SV.v (Value.int IntKind.i32 (95 : Int))), ((9 : Nat), SV.v (Value.bool false)), ((7 : Nat), SV.p (1 : Nat) (0 : Nat)), ((4 : Nat), SV.v (Value.int IntKind.u64 (16 : Int))), ((2 : Nat), SV.p (0 : Nat) (0 : Nat)), ((3 : Nat), SV.v (Value.int IntKind.i64 (0 : Int)))] [HO.cells [SV.v (Value.int IntKind.u64 (0 : Int)), SV.v (Value.int IntKind.u64 (0 : Int)), SV.v (Value.int IntKind.u64 (0 : Int)), SV.v (Value.int IntKind.u64 (0 : Int))] (24 : Nat), HO.cells [SV.v (Value.int IntKind.u64 (0 : Int)), SV.v (Value.int IntKind.u64 (0 : Int)), SV.v (Value.int IntKind.u64 (0 : Int)), SV.v (Value.int IntKind.u64 (0 : Int))] (24 : Nat), HO.obj (Obj.stringIter (match hasPre s (ByteArray.mk (Array.mk [OfNat.ofNat (48 : Nat), OfNat.ofNat (120 : Nat)])) with | true => ByteArray.extract s (2 : Nat) (ByteArray.size s) | false => s) (0 : Nat))])]
  := by kernel_rfl

theorem parB10 (s : ByteArray) : ((xgo Try.prog X (bodyOf Try.f22) 71 TI [] 60 [.f, .f] ((.nil)) [.at []] ⟨argsTm 0 [.string s], []⟩ [] []).map (trims [27, 8, 9, 7, 4, 2, 3])) =
  some [Leaf2.mk [] [fun _ => decide ((100000 : Int) < (↑(ByteArray.size s) : Int)) = false,
    fun _ => True,
    fun _ => hasPre s (ByteArray.mk (Array.mk [OfNat.ofNat (48 : Nat), OfNat.ofNat (120 : Nat)])) = false] [It.at [(0 : Nat), (1 : Nat), (0 : Nat), (1 : Nat), (1 : Nat), (1 : Nat), (1 : Nat), (1 : Nat), (1 : Nat), (1 : Nat)], It.blk (0 : Nat), It.at [(1 : Nat), (1 : Nat), (1 : Nat), (1 : Nat), (1 : Nat), (1 : Nat), (1 : Nat), (1 : Nat)]] (St.mk [((27 : Nat), SV.p (2 : Nat) (0 : Nat)), ((8 : Nat), SV.v (Value.int IntKind.i32 (95 : Int))), ((9 : Nat), SV.v (Value.bool false)), ((7 : Nat), SV.p (1 : Nat) (0 : Nat)), ((4 : Nat), SV.v (Value.int IntKind.u64 (10 : Int))), ((2 : Nat), SV.p (0 : Nat) (0 : Nat)), ((3 : Nat), SV.v (Value.int IntKind.i64 (0 : Int)))] [HO.cells [SV.v (Value.int IntKind.u64 (0 : Int)), SV.v (Value.int IntKind.u64 (0 : Int)), SV.v (Value.int IntKind.u64 (0 : Int)), SV.v (Value.int IntKind.u64 (0 : Int))] (24 : Nat), HO.cells [SV.v (Value.int IntKind.u64 (0 : Int)), SV.v (Value.int IntKind.u64 (0 : Int)), SV.v (Value.int IntKind.u64 (0 : Int)), SV.v (Value.int IntKind.u64 (0 : Int))] (24 : Nat), HO.obj (Obj.stringIter s (0 : Nat))])]
  := by kernel_rfl

theorem parBL (s : ByteArray) : (((xgo Try.prog X (bodyOf Try.f22) 71 TI [] 60 [.t] ((.nil)) [.at []] ⟨argsTm 0 [.string s], []⟩ [] []).bind (ends Try.prog Try.f22.results.toList)).bind plainE) =
  some [EndP.mk [] [fun _ => decide ((100000 : Int) < (↑(ByteArray.size s) : Int)) = true,
    fun _ => (4 : Nat) ≤ (4 : Nat)] (Res.v (Value.tuple (Array.mk [Value.agg (Array.mk [Value.int IntKind.u64 (0 : Int), Value.int IntKind.u64 (0 : Int), Value.int IntKind.u64 (0 : Int), Value.int IntKind.u64 (0 : Int)]), Value.int IntKind.i64 (12 : Int)])))]
  := by kernel_rfl


theorem parse_ok (s : ByteArray) (w : World) : Calls Try.prog 22 [.string s].toArray w (fun E w' => ∃ v, E = .returned v ∧ Res.ok w w' (.v (.tuple #[el (pN s), .int .i64 ((pE s : Nat) : Int)])) v ∧ Below w.heap.size w w') := by
  have hval : Value.tuple #[el (pN s), .int .i64 ((pE s : Nat) : Int)] = pVal (pAll s) := by rw [pVal, pN, pE, hide_eq, hide_eq]
  rw [hval]
  have hF := F0.mono w
  by_cases h0 : 100000 < s.size
  · rw [pAll, if_pos h0]
    refine con_end (calls_plain hm Try.func22 (by kernel_rfl) rfl rfl 60 _ _ (parBL s) ⟨fun _ => ⟨?_, ?_⟩, trivial⟩)
    · simp only [hold_cons, hold_nil, and_true]
      exact ⟨fun _ _ => decide_eq_true (by omega), fun _ _ => by omega⟩
    · rw [zel]; rfl
  · rw [pAll, if_neg h0]
    cases hp : hasPre s sg16 with
    | true =>
      rw [if_pos rfl]
      refine con_end (calls_of_ok (B := bodyOf Try.f22) (n := 71) Try.func22 (by kernel_rfl) rfl rfl (F := F0 w) (fun _ _ h => h) ?_)
      refine xgo_trim hm hF finB 60 _ _ _ _ _ _ (parB16 s) (paidCons (fun _ => ⟨?_, ?_⟩) paidNil)
      · simp only [hold_cons, hold_nil, and_true]
        exact ⟨fun _ _ => decide_eq_false (by omega), fun _ _ => trivial, fun _ _ => hp⟩
      · have hp' : hasPre s (ByteArray.mk (Array.mk [OfNat.ofNat (48 : Nat), OfNat.ofNat (120 : Nat)])) = true := hp
        simp only [hp']
        refine ok_mono (st := stP (s.extract 2 s.size) 16 0 0 95 false) (by rw [stP, ec0]; rfl) (Ok.loop ((s.extract 2 s.size).size + 2) (by kernel_rfl) ?_)
        refine par_loop (s.extract 2 s.size) 16 (.inr rfl) (fun r => r = .v (pVal (pRes 16 (s.extract 2 s.size)))) (s.extract 2 s.size).size 0 0 95 false top_pos (by omega) ?_
        rw [pRes, decide_eq_true rfl]
    | false =>
      rw [if_neg (by simp)]
      refine con_end (calls_of_ok (B := bodyOf Try.f22) (n := 71) Try.func22 (by kernel_rfl) rfl rfl (F := F0 w) (fun _ _ h => h) ?_)
      refine xgo_trim hm hF finB 60 _ _ _ _ _ _ (parB10 s) (paidCons (fun _ => ⟨?_, ?_⟩) paidNil)
      · simp only [hold_cons, hold_nil, and_true]
        exact ⟨fun _ _ => decide_eq_false (by omega), fun _ _ => trivial, fun _ _ => hp⟩
      · refine ok_mono (st := stP s 10 0 0 95 false) (by rw [stP, ec0]; rfl) (Ok.loop (s.size + 2) (by kernel_rfl) ?_)
        refine par_loop s 10 (.inl rfl) (fun r => r = .v (pVal (pRes 10 s))) s.size 0 0 95 false top_pos (by omega) ?_
        rw [pRes, decide_eq_true rfl]
noncomputable def gParse : List RV → Option (Res × Prop)
  | [.v (.string s)] => some (.v (.tuple #[el (pN s), .int .i64 ((pE s : Nat) : Int)]), True)
  | _ => none
theorem gParse_ok (rvs : List RV) (r : Res) (p : Prop) (vs : List Value) (w : World) (hg : gParse rvs = some (r, p)) (hp : p) (hv : RVs (wmem w) rvs vs) : Calls Try.prog 22 vs.toArray w (fun E w' => ∃ v, E = .returned v ∧ r.ok w w' v ∧ Below w.heap.size w w') := by
  unfold gParse at hg
  split at hg
  · rename_i s
    simp only [Option.some.injEq, Prod.mk.injEq] at hg
    obtain ⟨rfl, rfl⟩ := hg
    match vs, hv with
    | [y], ⟨h1, _⟩ =>
      rw [h1]
      exact parse_ok s w
  · cases hg
noncomputable def TJ : Con Try.prog := TI.add 22 gParse gParse_ok
end Go.Proofs.Ytcipmpamhffclaa
