/- The document's number of a text: states. -/
import Derived.Test.YtcipmpamhffclaaP7
namespace Go.Proofs.Ytcipmpamhffclaa
open Go.Sx Go.Pl Go.RowKit
def qR : List Nat := [0,0,1,0,1,1,1,1,1,1,1,1,1]
noncomputable def stR (s : ByteArray) (h : Bool) (y a i n : Nat) (l g : Bool) : St :=
  ⟨[(10, .v (.int .i64 (i : Int))), (0, .v (.string s)), (8, .v (.int .i64 (n : Int))), (9, .v (.bool l)), (6, .p 1 0), (5, .v (.int .i64 (y : Int))), (4, .v (.bool h)), (7, .v (.bool g)), (2, .p 0 0), (3, .v (.int .i64 0))], [.cells (ec 0) 24, .cells (ec a) 24]⟩
end Go.Proofs.Ytcipmpamhffclaa

namespace Go.Pl
open Go.Sx
theorem digp_step {y : Nat} {s : ByteArray} {i d k : Nat} (h : dig y s i = some (d, k)) : d < 16 ∧ 1 ≤ k ∧ k ≤ 3 := by
  unfold dig at h
  repeat' split at h
  all_goals first | (simp only [Option.some.injEq, Prod.mk.injEq] at h; obtain ⟨rfl, rfl⟩ := h; omega) | cases h
end Go.Pl
namespace Go.Proofs.Ytcipmpamhffclaa
open Go.Sx Go.Pl Go.RowKit
theorem rpE1 (s : ByteArray) (h : Bool) (y a i n M : Nat) (l g : Bool) : (((xgo Try.prog X (bodyOf Try.f23) 85 TK [] 60 [.f, .t, .t] ((.nil)) [.at qR, .rnd qR (M + 1), .blk 0, .at [1,1,1,1,1,1,1,1,1,1]] (stR s h y a i n l g) [] []).bind (ends Try.prog Try.f23.results.toList)).bind plainE) =
  some [EndP.mk [] [fun _ => decide ((↑i : Int) < (↑(ByteArray.size s) : Int)) = false,
    fun _ => ((↑n : Int) == (0 : Int)) = true,
    fun _ => true = true,
    fun _ => (4 : Nat) ≤ (4 : Nat)] (Res.v (Value.tuple (Array.mk [Value.agg (Array.mk [Value.int IntKind.u64 (0 : Int), Value.int IntKind.u64 (0 : Int), Value.int IntKind.u64 (0 : Int), Value.int IntKind.u64 (0 : Int)]), Value.int IntKind.i64 (11 : Int)])))]
  := by kernel_rfl

theorem rpE2 (s : ByteArray) (h : Bool) (y a i n M : Nat) (l g : Bool) : (((xgo Try.prog X (bodyOf Try.f23) 85 TK [] 60 [.f, .f, .t] ((.nil)) [.at qR, .rnd qR (M + 1), .blk 0, .at [1,1,1,1,1,1,1,1,1,1]] (stR s h y a i n l g) [] []).bind (ends Try.prog Try.f23.results.toList)).bind plainE) =
  some [EndP.mk [] [fun _ => decide ((↑i : Int) < (↑(ByteArray.size s) : Int)) = false,
    fun _ => ((↑n : Int) == (0 : Int)) = false,
    fun _ => l = true,
    fun _ => (4 : Nat) ≤ (4 : Nat)] (Res.v (Value.tuple (Array.mk [Value.agg (Array.mk [Value.int IntKind.u64 (0 : Int), Value.int IntKind.u64 (0 : Int), Value.int IntKind.u64 (0 : Int), Value.int IntKind.u64 (0 : Int)]), Value.int IntKind.i64 (11 : Int)])))]
  := by kernel_rfl

theorem rpE3 (s : ByteArray) (h : Bool) (y a i n M : Nat) (l g : Bool) : (((xgo Try.prog X (bodyOf Try.f23) 85 TK [] 60 [.f, .f, .f, .t] ((.nil)) [.at qR, .rnd qR (M + 1), .blk 0, .at [1,1,1,1,1,1,1,1,1,1]] (stR s h y a i n l g) [] []).bind (ends Try.prog Try.f23.results.toList)).bind plainE) =
  some [EndP.mk [] [fun _ => decide ((↑i : Int) < (↑(ByteArray.size s) : Int)) = false,
    fun _ => ((↑n : Int) == (0 : Int)) = false,
    fun _ => l = false,
    fun _ => g = true,
    fun _ => (4 : Nat) ≤ (4 : Nat)] (Res.v (Value.tuple (Array.mk [Value.agg (Array.mk [Value.int IntKind.u64 (0 : Int), Value.int IntKind.u64 (0 : Int), Value.int IntKind.u64 (0 : Int), Value.int IntKind.u64 (0 : Int)]), Value.int IntKind.i64 (12 : Int)])))]
  := by kernel_rfl

theorem rpE4 (s : ByteArray) (h : Bool) (y a i n M : Nat) (l g : Bool) : (((xgo Try.prog X (bodyOf Try.f23) 85 TK [] 60 [.f, .f, .f, .f] ((.nil)) [.at qR, .rnd qR (M + 1), .blk 0, .at [1,1,1,1,1,1,1,1,1,1]] (stR s h y a i n l g) [] []).bind (ends Try.prog Try.f23.results.toList)).bind plainE) =
  some [EndP.mk [] [fun _ => decide ((↑i : Int) < (↑(ByteArray.size s) : Int)) = false,
    fun _ => ((↑n : Int) == (0 : Int)) = false,
    fun _ => l = false,
    fun _ => g = false,
    fun _ => (0 : Nat) + (4 : Nat) ≤ (4 : Nat)] (Res.v (Value.tuple (Array.mk [el a, Value.int IntKind.i64 (0 : Int)])))]
  := by kernel_rfl

theorem rpX1 (s : ByteArray) (h : Bool) (c y a i n M : Nat) (l g : Bool) : (((xgo Try.prog X (bodyOf Try.f23) 85 TK [] 60 [.t, .as 37 (.v (.int .u8 (c : Int))), .t, .t, .t] ((.nil)) [.at qR, .rnd qR (M + 1), .blk 0, .at [1,1,1,1,1,1,1,1,1,1]] (stR s h y a i n l g) [] []).bind (ends Try.prog Try.f23.results.toList)).bind plainE) =
  some [EndP.mk [] [fun _ => decide ((↑i : Int) < (↑(ByteArray.size s) : Int)) = true,
    fun _ => (0 : Int) ≤ (↑i : Int) ∧ (↑i : Int) < (↑(ByteArray.size s) : Int),
    fun _ => Value.int IntKind.u8 (sbyte s (Int.toNat (↑i : Int))) = Value.int IntKind.u8 (↑c : Int),
    fun _ => ((↑c : Int) == (95 : Int)) = true,
    fun _ => ((↑n : Int) == (0 : Int)) = true,
    fun _ => true = true,
    fun _ => (4 : Nat) ≤ (4 : Nat)] (Res.v (Value.tuple (Array.mk [Value.agg (Array.mk [Value.int IntKind.u64 (0 : Int), Value.int IntKind.u64 (0 : Int), Value.int IntKind.u64 (0 : Int), Value.int IntKind.u64 (0 : Int)]), Value.int IntKind.i64 (11 : Int)])))]
  := by kernel_rfl

theorem rpX2 (s : ByteArray) (h : Bool) (c y a i n M : Nat) (l g : Bool) : (((xgo Try.prog X (bodyOf Try.f23) 85 TK [] 60 [.t, .as 37 (.v (.int .u8 (c : Int))), .t, .f, .t] ((.nil)) [.at qR, .rnd qR (M + 1), .blk 0, .at [1,1,1,1,1,1,1,1,1,1]] (stR s h y a i n l g) [] []).bind (ends Try.prog Try.f23.results.toList)).bind plainE) =
  some [EndP.mk [] [fun _ => decide ((↑i : Int) < (↑(ByteArray.size s) : Int)) = true,
    fun _ => (0 : Int) ≤ (↑i : Int) ∧ (↑i : Int) < (↑(ByteArray.size s) : Int),
    fun _ => Value.int IntKind.u8 (sbyte s (Int.toNat (↑i : Int))) = Value.int IntKind.u8 (↑c : Int),
    fun _ => ((↑c : Int) == (95 : Int)) = true,
    fun _ => ((↑n : Int) == (0 : Int)) = false,
    fun _ => l = true,
    fun _ => (4 : Nat) ≤ (4 : Nat)] (Res.v (Value.tuple (Array.mk [Value.agg (Array.mk [Value.int IntKind.u64 (0 : Int), Value.int IntKind.u64 (0 : Int), Value.int IntKind.u64 (0 : Int), Value.int IntKind.u64 (0 : Int)]), Value.int IntKind.i64 (11 : Int)])))]
  := by kernel_rfl

theorem rpX3 (s : ByteArray) (h : Bool) (c y a i n M : Nat) (l g : Bool) : (((xgo Try.prog X (bodyOf Try.f23) 85 TK [] 60 [.t, .as 37 (.v (.int .u8 (c : Int))), .f, .t] ((.nil)) [.at qR, .rnd qR (M + 1), .blk 0, .at [1,1,1,1,1,1,1,1,1,1]] (stR s h y a i n l g) [] []).bind (ends Try.prog Try.f23.results.toList)).bind plainE) =
  some [EndP.mk [] [fun _ => decide ((↑i : Int) < (↑(ByteArray.size s) : Int)) = true,
    fun _ => (0 : Int) ≤ (↑i : Int) ∧ (↑i : Int) < (↑(ByteArray.size s) : Int),
    fun _ => Value.int IntKind.u8 (sbyte s (Int.toNat (↑i : Int))) = Value.int IntKind.u8 (↑c : Int),
    fun _ => ((↑c : Int) == (95 : Int)) = false,
    fun _ => (↑i : Int) = (↑(Int.toNat (↑i : Int)) : Int) ∧ Int.toNat (↑i : Int) < ByteArray.size s ∧ ByteArray.size s ≤ (100000 : Nat),
    fun _ => decide (vD (if h = true then (16 : Nat) else (10 : Nat)) s (Int.toNat (↑i : Int)) < (0 : Int)) = true,
    fun _ => (4 : Nat) ≤ (4 : Nat)] (Res.v (Value.tuple (Array.mk [Value.agg (Array.mk [Value.int IntKind.u64 (0 : Int), Value.int IntKind.u64 (0 : Int), Value.int IntKind.u64 (0 : Int), Value.int IntKind.u64 (0 : Int)]), Value.int IntKind.i64 (11 : Int)])))]
  := by kernel_rfl

theorem rpS (s : ByteArray) (h : Bool) (c y a i n M : Nat) (l g : Bool) (kt : List It) : ((xgo Try.prog X (bodyOf Try.f23) 85 TK [] 60 [.t, .as 37 (.v (.int .u8 (c : Int))), .t, .f, .f] ((.nil)) (.at qR :: .rnd qR (M + 1) :: kt) (stR s h y a i n l g) [] []).map (trims [10, 0, 8, 9, 6, 5, 4, 7, 2, 3])) =
  some [Leaf2.mk [] [fun _ => decide ((↑i : Int) < (↑(ByteArray.size s) : Int)) = true,
    fun _ => (0 : Int) ≤ (↑i : Int) ∧ (↑i : Int) < (↑(ByteArray.size s) : Int),
    fun _ => Value.int IntKind.u8 (sbyte s (Int.toNat (↑i : Int))) = Value.int IntKind.u8 (↑c : Int),
    fun _ => ((↑c : Int) == (95 : Int)) = true,
    fun _ => ((↑n : Int) == (0 : Int)) = false,
    fun _ => l = false] (It.rnd [(0 : Nat), (0 : Nat), (1 : Nat), (0 : Nat), (1 : Nat), (1 : Nat), (1 : Nat), (1 : Nat), (1 : Nat), (1 : Nat), (1 : Nat), (1 : Nat), (1 : Nat)] (M + (1 : Nat)) :: kt) (St.mk [((10 : Nat), SV.v (Value.int IntKind.i64 (IntKind.wrap IntKind.i64 ((↑i : Int) + (1 : Int))))), ((0 : Nat), SV.v (Value.string s)), ((8 : Nat), SV.v (Value.int IntKind.i64 (↑n : Int))), ((9 : Nat), SV.v (Value.bool true)), ((6 : Nat), SV.p (1 : Nat) (0 : Nat)), ((5 : Nat), SV.v (Value.int IntKind.i64 (↑y : Int))), ((4 : Nat), SV.v (Value.bool h)), ((7 : Nat), SV.v (Value.bool g)), ((2 : Nat), SV.p (0 : Nat) (0 : Nat)), ((3 : Nat), SV.v (Value.int IntKind.i64 (0 : Int)))] [HO.cells (ec (0 : Nat)) (24 : Nat), HO.cells (ec a) (24 : Nat)])]
  := by kernel_rfl

theorem rpDt (s : ByteArray) (h : Bool) (c d y a i n M : Nat) (l : Bool) (kt : List It) : ((xgo Try.prog X (bodyOf Try.f23) 85 TK [] 60 [.t, .as 37 (.v (.int .u8 (c : Int))), .f, .as 52 (.v (.int .i64 (d : Int))), .f, .as 65 (.v (.int .u64 (y : Int))), .as 67 (.v (.int .u64 (d : Int))), .t] ((.nil)) (.at qR :: .rnd qR (M + 1) :: kt) (stR s h y a i n l true) [] []).map (trims [10, 0, 8, 9, 6, 5, 4, 7, 2, 3])) =
  some [Leaf2.mk [] [fun _ => decide ((↑i : Int) < (↑(ByteArray.size s) : Int)) = true,
    fun _ => (0 : Int) ≤ (↑i : Int) ∧ (↑i : Int) < (↑(ByteArray.size s) : Int),
    fun _ => Value.int IntKind.u8 (sbyte s (Int.toNat (↑i : Int))) = Value.int IntKind.u8 (↑c : Int),
    fun _ => ((↑c : Int) == (95 : Int)) = false,
    fun _ => (↑i : Int) = (↑(Int.toNat (↑i : Int)) : Int) ∧ Int.toNat (↑i : Int) < ByteArray.size s ∧ ByteArray.size s ≤ (100000 : Nat),
    fun _ => Value.int IntKind.i64 (vD (if h = true then (16 : Nat) else (10 : Nat)) s (Int.toNat (↑i : Int))) = Value.int IntKind.i64 (↑d : Int),
    fun _ => decide ((↑d : Int) < (0 : Int)) = false,
    fun _ => Value.int IntKind.u64 (IntKind.wrap IntKind.u64 (↑y : Int)) = Value.int IntKind.u64 (↑y : Int),
    fun _ => Value.int IntKind.u64 (IntKind.wrap IntKind.u64 (↑d : Int)) = Value.int IntKind.u64 (↑d : Int),
    fun _ => el a = el (elN a) ∧ elN a < top ∧ (↑y : Int) = (↑(Int.toNat (↑y : Int)) : Int) ∧ (↑d : Int) = (↑(Int.toNat (↑d : Int)) : Int) ∧ Int.toNat (↑y : Int) ≤ (16 : Nat) ∧ Int.toNat (↑d : Int) < (4294967296 : Nat),
    fun _ => (0 : Nat) + (4 : Nat) ≤ (4 : Nat),
    fun _ => (0 : Nat) + (4 : Nat) ≤ (4 : Nat),
    fun _ => true = true] (It.rnd [(0 : Nat), (0 : Nat), (1 : Nat), (0 : Nat), (1 : Nat), (1 : Nat), (1 : Nat), (1 : Nat), (1 : Nat), (1 : Nat), (1 : Nat), (1 : Nat), (1 : Nat)] (M + (1 : Nat)) :: kt) (St.mk [((10 : Nat), SV.v (Value.int IntKind.i64 (IntKind.wrap IntKind.i64 ((↑i : Int) + (↑(vK (if h = true then (16 : Nat) else (10 : Nat)) s (Int.toNat (↑i : Int))) : Int))))), ((0 : Nat), SV.v (Value.string s)), ((8 : Nat), SV.v (Value.int IntKind.i64 (IntKind.wrap IntKind.i64 ((↑n : Int) + (1 : Int))))), ((9 : Nat), SV.v (Value.bool false)), ((6 : Nat), SV.p (1 : Nat) (0 : Nat)), ((5 : Nat), SV.v (Value.int IntKind.i64 (↑y : Int))), ((4 : Nat), SV.v (Value.bool h)), ((7 : Nat), SV.v (Value.bool true)), ((2 : Nat), SV.p (0 : Nat) (0 : Nat)), ((3 : Nat), SV.v (Value.int IntKind.i64 (0 : Int)))] [HO.cells (ec (0 : Nat)) (24 : Nat), HO.cells (ec ((elN a * Int.toNat (↑y : Int) + Int.toNat (↑d : Int)) % top)) (24 : Nat), HO.cells (ec ((elN a * Int.toNat (↑y : Int) + Int.toNat (↑d : Int)) % top)) (24 : Nat)])]
  := by kernel_rfl

theorem rpDf (s : ByteArray) (h : Bool) (c d y a i n M : Nat) (l : Bool) (kt : List It) : ((xgo Try.prog X (bodyOf Try.f23) 85 TK [] 60 [.t, .as 37 (.v (.int .u8 (c : Int))), .f, .as 52 (.v (.int .i64 (d : Int))), .f, .as 65 (.v (.int .u64 (y : Int))), .as 67 (.v (.int .u64 (d : Int))), .f] ((.nil)) (.at qR :: .rnd qR (M + 1) :: kt) (stR s h y a i n l false) [] []).map (trims [10, 0, 8, 9, 6, 5, 4, 7, 2, 3])) =
  some [Leaf2.mk [] [fun _ => decide ((↑i : Int) < (↑(ByteArray.size s) : Int)) = true,
    fun _ => (0 : Int) ≤ (↑i : Int) ∧ (↑i : Int) < (↑(ByteArray.size s) : Int),
    fun _ => Value.int IntKind.u8 (sbyte s (Int.toNat (↑i : Int))) = Value.int IntKind.u8 (↑c : Int),
    fun _ => ((↑c : Int) == (95 : Int)) = false,
    fun _ => (↑i : Int) = (↑(Int.toNat (↑i : Int)) : Int) ∧ Int.toNat (↑i : Int) < ByteArray.size s ∧ ByteArray.size s ≤ (100000 : Nat),
    fun _ => Value.int IntKind.i64 (vD (if h = true then (16 : Nat) else (10 : Nat)) s (Int.toNat (↑i : Int))) = Value.int IntKind.i64 (↑d : Int),
    fun _ => decide ((↑d : Int) < (0 : Int)) = false,
    fun _ => Value.int IntKind.u64 (IntKind.wrap IntKind.u64 (↑y : Int)) = Value.int IntKind.u64 (↑y : Int),
    fun _ => Value.int IntKind.u64 (IntKind.wrap IntKind.u64 (↑d : Int)) = Value.int IntKind.u64 (↑d : Int),
    fun _ => el a = el (elN a) ∧ elN a < top ∧ (↑y : Int) = (↑(Int.toNat (↑y : Int)) : Int) ∧ (↑d : Int) = (↑(Int.toNat (↑d : Int)) : Int) ∧ Int.toNat (↑y : Int) ≤ (16 : Nat) ∧ Int.toNat (↑d : Int) < (4294967296 : Nat),
    fun _ => (0 : Nat) + (4 : Nat) ≤ (4 : Nat),
    fun _ => (0 : Nat) + (4 : Nat) ≤ (4 : Nat),
    fun _ => false = false] (It.rnd [(0 : Nat), (0 : Nat), (1 : Nat), (0 : Nat), (1 : Nat), (1 : Nat), (1 : Nat), (1 : Nat), (1 : Nat), (1 : Nat), (1 : Nat), (1 : Nat), (1 : Nat)] (M + (1 : Nat)) :: kt) (St.mk [((10 : Nat), SV.v (Value.int IntKind.i64 (IntKind.wrap IntKind.i64 ((↑i : Int) + (↑(vK (if h = true then (16 : Nat) else (10 : Nat)) s (Int.toNat (↑i : Int))) : Int))))), ((0 : Nat), SV.v (Value.string s)), ((8 : Nat), SV.v (Value.int IntKind.i64 (IntKind.wrap IntKind.i64 ((↑n : Int) + (1 : Int))))), ((9 : Nat), SV.v (Value.bool false)), ((6 : Nat), SV.p (1 : Nat) (0 : Nat)), ((5 : Nat), SV.v (Value.int IntKind.i64 (↑y : Int))), ((4 : Nat), SV.v (Value.bool h)), ((7 : Nat), SV.v (Value.bool (decide (top ≤ elN a * Int.toNat (↑y : Int) + Int.toNat (↑d : Int))))), ((2 : Nat), SV.p (0 : Nat) (0 : Nat)), ((3 : Nat), SV.v (Value.int IntKind.i64 (0 : Int)))] [HO.cells (ec (0 : Nat)) (24 : Nat), HO.cells (ec ((elN a * Int.toNat (↑y : Int) + Int.toNat (↑d : Int)) % top)) (24 : Nat), HO.cells (ec ((elN a * Int.toNat (↑y : Int) + Int.toNat (↑d : Int)) % top)) (24 : Nat)])]
  := by kernel_rfl


theorem rpar_loop {w : World} (s : ByteArray) (h : Bool) (y : Nat) (hy : bOf h = y) (hs : s.size ≤ 100000) (R : Res → Prop) : ∀ (k i a n : Nat) (l g : Bool), a < top → n ≤ i → s.size ≤ i + k → i ≤ s.size + 3 → R (.v (pVal (prs y s (k + 1) i a (decide (n = 0) || l) g))) →
    Ok Try.prog (bodyOf Try.f23) 85 (F0 w) w (bodyPost Try.prog Try.f23 fun E w' => ∃ v r, E = .returned v ∧ R r ∧ r.ok w w' v ∧ Below w.heap.size w w') (.rnd qR (k + 2) :: [.blk 0, .at [1,1,1,1,1,1,1,1,1,1]]) (stR s h y a i n l g) := by
  intro k i a n l g ha hni hk hi3 hR
  have hF := F0.mono w
  have hy16 : y = 10 ∨ y = 16 := by subst hy; cases h <;> simp [bOf]
  have hb : (if h = true then 16 else 10) = y := hy
  by_cases hi : s.size ≤ i
  · rw [prs, if_pos hi] at hR
    by_cases hn : n = 0
    · rw [decide_eq_true hn, Bool.true_or, if_pos rfl] at hR
      refine Ok.rnd (ok_plain hm hF (fun _ h => h) 60 _ _ _ _ (rpE1 s h y a i n k l g) ⟨fun _ => ⟨?_, ?_⟩, trivial⟩)
      · simp only [hold_cons, hold_nil, and_true]
        exact ⟨fun _ _ => decide_eq_false (by omega), fun _ _ => beq_iff_eq.2 (by omega), fun _ _ => trivial, fun _ _ => by omega⟩
      · rw [zel]; exact hR
    · rw [decide_eq_false hn, Bool.false_or] at hR
      cases l with
      | true =>
        rw [if_pos rfl] at hR
        refine Ok.rnd (ok_plain hm hF (fun _ h => h) 60 _ _ _ _ (rpE2 s h y a i n k true g) ⟨fun _ => ⟨?_, ?_⟩, trivial⟩)
        · simp only [hold_cons, hold_nil, and_true]
          exact ⟨fun _ _ => decide_eq_false (by omega), fun _ _ => beq_eq_false_iff_ne.2 (by omega), fun _ _ => trivial, fun _ _ => by omega⟩
        · rw [zel]; exact hR
      | false =>
        rw [if_neg (by simp)] at hR
        cases g with
        | true =>
          rw [if_pos rfl] at hR
          refine Ok.rnd (ok_plain hm hF (fun _ h => h) 60 _ _ _ _ (rpE3 s h y a i n k false true) ⟨fun _ => ⟨?_, ?_⟩, trivial⟩)
          · simp only [hold_cons, hold_nil, and_true]
            exact ⟨fun _ _ => decide_eq_false (by omega), fun _ _ => beq_eq_false_iff_ne.2 (by omega), fun _ _ => trivial, fun _ _ => trivial, fun _ _ => by omega⟩
          · rw [zel]; exact hR
        | false =>
          rw [if_neg (by simp)] at hR
          refine Ok.rnd (ok_plain hm hF (fun _ h => h) 60 _ _ _ _ (rpE4 s h y a i n k false false) ⟨fun _ => ⟨?_, ?_⟩, trivial⟩)
          · simp only [hold_cons, hold_nil, and_true]
            exact ⟨fun _ _ => decide_eq_false (by omega), fun _ _ => beq_eq_false_iff_ne.2 (by omega), fun _ _ => trivial, fun _ _ => trivial, fun _ _ => by omega⟩
          · exact hR
  · obtain ⟨k, rfl⟩ : ∃ j, k = j + 1 := ⟨k - 1, by omega⟩
    rw [prs, if_neg hi] at hR
    have hsb : Value.int IntKind.u8 (sbyte s i) = Value.int IntKind.u8 ((at8 s i : Nat) : Int) := by rw [sbyte_at]
    have hilt : decide ((i : Int) < (s.size : Int)) = true := decide_eq_true (by omega)
    have hib : (0 : Int) ≤ (i : Int) ∧ (i : Int) < (s.size : Int) := ⟨by omega, by omega⟩
    by_cases h95 : at8 s i = 95
    · rw [if_pos h95] at hR
      have hc : (((at8 s i : Nat) : Int) == (95 : Int)) = true := beq_iff_eq.2 (by omega)
      by_cases hn : n = 0
      · rw [decide_eq_true hn, Bool.true_or, if_pos rfl] at hR
        refine Ok.rnd (ok_plain hm hF (fun _ h => h) 60 _ _ _ _ (rpX1 s h (at8 s i) y a i n (k + 1) l g) ⟨fun _ => ⟨?_, ?_⟩, trivial⟩)
        · simp only [hold_cons, hold_nil, and_true, Int.toNat_natCast]
          exact ⟨fun _ _ => hilt, fun _ _ => hib, fun _ _ => hsb, fun _ _ => hc, fun _ _ => beq_iff_eq.2 (by omega), fun _ _ => trivial, fun _ _ => by omega⟩
        · rw [zel]; exact hR
      · rw [decide_eq_false hn, Bool.false_or] at hR
        have hn0 : (((n : Nat) : Int) == (0 : Int)) = false := beq_eq_false_iff_ne.2 (by omega)
        cases l with
        | true =>
          rw [if_pos rfl] at hR
          refine Ok.rnd (ok_plain hm hF (fun _ h => h) 60 _ _ _ _ (rpX2 s h (at8 s i) y a i n (k + 1) true g) ⟨fun _ => ⟨?_, ?_⟩, trivial⟩)
          · simp only [hold_cons, hold_nil, and_true, Int.toNat_natCast]
            exact ⟨fun _ _ => hilt, fun _ _ => hib, fun _ _ => hsb, fun _ _ => hc, fun _ _ => hn0, fun _ _ => trivial, fun _ _ => by omega⟩
          · rw [zel]; exact hR
        | false =>
          rw [if_neg (by simp)] at hR
          refine Ok.rnd (xgo_trim hm hF finB 60 _ _ _ _ _ _ (rpS s h (at8 s i) y a i n (k + 1) false g _) (paidCons (fun _ => ⟨?_, ?_⟩) paidNil))
          · simp only [hold_cons, hold_nil, and_true, Int.toNat_natCast]
            exact ⟨fun _ _ => hilt, fun _ _ => hib, fun _ _ => hsb, fun _ _ => hc, fun _ _ => hn0, fun _ _ => trivial⟩
          · have w1 : IntKind.wrap .i64 ((i : Int) + 1) = ((i + 1 : Nat) : Int) := by rw [show (i : Int) + 1 = ((i + 1 : Nat) : Int) by omega, wrap_i64 _ (by omega)]
            simp only [w1]
            refine ok_mono (st := stR s h y a (i + 1) n true g) rfl (rpar_loop s h y hy hs R k (i + 1) a n true g ha (by omega) (by omega) (by omega) ?_)
            rw [Bool.or_true]
            exact hR
    · rw [if_neg h95] at hR
      have hc : (((at8 s i : Nat) : Int) == (95 : Int)) = false := beq_eq_false_iff_ne.2 (by omega)
      cases hd : dig y s i with
      | none =>
        rw [hd] at hR
        refine Ok.rnd (ok_plain hm hF (fun _ h => h) 60 _ _ _ _ (rpX3 s h (at8 s i) y a i n (k + 1) l g) ⟨fun _ => ⟨?_, ?_⟩, trivial⟩)
        · simp only [hold_cons, hold_nil, and_true, Int.toNat_natCast, hb]
          exact ⟨fun _ _ => hilt, fun _ _ => hib, fun _ _ => hsb, fun _ _ => hc, fun _ _ => ⟨trivial, by omega, hs⟩, fun _ _ => decide_eq_true (by rw [vD, hidZ_eq, hd, digD]; omega), fun _ _ => by omega⟩
        · rw [zel]; exact hR
      | some dk =>
        obtain ⟨d, m⟩ := dk
        rw [hd] at hR
        obtain ⟨hd16, hm1, hm3⟩ := digp_step hd
        have hlt : (a * y + d) % top < top := Nat.mod_lt _ top_pos
        have hv : vD y s i = (d : Int) := by rw [vD, hidZ_eq, hd, digD]
        have hK : vK y s i = m := by rw [vK, hide_eq, hd, digK]
        have hvv : Value.int IntKind.i64 (vD y s i) = Value.int IntKind.i64 (d : Int) := by rw [hv]
        have hd0 : decide ((d : Int) < (0 : Int)) = false := decide_eq_false (by omega)
        have hwy : Value.int IntKind.u64 (IntKind.wrap .u64 (y : Int)) = Value.int IntKind.u64 (y : Int) := by rw [wrapN _ (by omega)]
        have hwd : Value.int IntKind.u64 (IntKind.wrap .u64 (d : Int)) = Value.int IntKind.u64 (d : Int) := by rw [wrapN _ (by omega)]
        have w1 : IntKind.wrap .i64 ((i : Int) + (m : Int)) = ((i + m : Nat) : Int) := by rw [show (i : Int) + (m : Int) = ((i + m : Nat) : Int) by omega, wrap_i64 _ (by omega)]
        have w2 : IntKind.wrap .i64 ((n : Int) + 1) = ((n + 1 : Nat) : Int) := by rw [show (n : Int) + 1 = ((n + 1 : Nat) : Int) by omega, wrap_i64 _ (by omega)]
        by_cases him : i + m ≤ s.size + 3
        · have fin := rpar_loop (w := w) s h y hy hs R k (i + m) ((a * y + d) % top) (n + 1) false (g || decide (top ≤ a * y + d)) hlt (by omega) (by omega) him (by rw [decide_eq_false (by omega), Bool.or_false]; exact hR)
          cases g with
          | true =>
            refine Ok.rnd (xgo_trim hm hF finB 60 _ _ _ _ _ _ (rpDt s h (at8 s i) d y a i n (k + 1) l _) (paidCons (fun _ => ⟨?_, ?_⟩) paidNil))
            · simp only [hold_cons, hold_nil, and_true, Int.toNat_natCast, hb, elN_eq ha]
              exact ⟨fun _ _ => hilt, fun _ _ => hib, fun _ _ => hsb, fun _ _ => hc, fun _ _ => ⟨trivial, by omega, hs⟩, fun _ _ => hvv, fun _ _ => hd0, fun _ _ => hwy, fun _ _ => hwd, fun _ _ => ⟨trivial, ha, trivial, trivial, by omega, by omega⟩, fun _ _ => by omega, fun _ _ => by omega, fun _ _ => trivial⟩
            · simp only [Int.toNat_natCast, hb, elN_eq ha, hK, w1, w2]
              exact Ok.weaken (st' := stR s h y ((a * y + d) % top) (i + m) (n + 1) false true) hF [0, 1] ⟨rfl, rfl, rfl, rfl, rfl, rfl, rfl, rfl, rfl, rfl, trivial⟩ ⟨rfl, rfl, trivial⟩ rfl ⟨by simp [stR, wsAllT, ws], by simp [stR, wsAllH, HO.ws, ec, wsL, ws]⟩ fin
          | false =>
            refine Ok.rnd (xgo_trim hm hF finB 60 _ _ _ _ _ _ (rpDf s h (at8 s i) d y a i n (k + 1) l _) (paidCons (fun _ => ⟨?_, ?_⟩) paidNil))
            · simp only [hold_cons, hold_nil, and_true, Int.toNat_natCast, hb, elN_eq ha]
              exact ⟨fun _ _ => hilt, fun _ _ => hib, fun _ _ => hsb, fun _ _ => hc, fun _ _ => ⟨trivial, by omega, hs⟩, fun _ _ => hvv, fun _ _ => hd0, fun _ _ => hwy, fun _ _ => hwd, fun _ _ => ⟨trivial, ha, trivial, trivial, by omega, by omega⟩, fun _ _ => by omega, fun _ _ => by omega, fun _ _ => trivial⟩
            · simp only [Int.toNat_natCast, hb, elN_eq ha, hK, w1, w2]
              exact Ok.weaken (st' := stR s h y ((a * y + d) % top) (i + m) (n + 1) false (decide (top ≤ a * y + d))) hF [0, 1] ⟨rfl, rfl, rfl, rfl, rfl, rfl, rfl, rfl, rfl, rfl, trivial⟩ ⟨rfl, rfl, trivial⟩ rfl ⟨by simp [stR, wsAllT, ws], by simp [stR, wsAllH, HO.ws, ec, wsL, ws]⟩ fin
        · exfalso; omega
termination_by k => k
end Go.Proofs.Ytcipmpamhffclaa

namespace Go.Pl
open Go.Sx
/-- Do two letters begin it? -/
theorem pre_eq (s : ByteArray) (h2 : 2 ≤ s.size) : hasPre s sg16 = (ByteArray.toList (ByteArray.extract s (0 : Nat) (2 : Nat)) == [ByteArray.get! (ByteArray.mk (Array.mk [OfNat.ofNat (48 : Nat), OfNat.ofNat (120 : Nat)])) (0 : Nat), ByteArray.get! (ByteArray.mk (Array.mk [OfNat.ofNat (48 : Nat), OfNat.ofNat (120 : Nat)])) (1 : Nat)]) := by
  have e1 : sg16.size = 2 := by decide +kernel
  have e2 : sg16.toList = [ByteArray.get! (ByteArray.mk (Array.mk [OfNat.ofNat (48 : Nat), OfNat.ofNat (120 : Nat)])) (0 : Nat), ByteArray.get! (ByteArray.mk (Array.mk [OfNat.ofNat (48 : Nat), OfNat.ofNat (120 : Nat)])) (1 : Nat)] := by decide +kernel
  rw [hasPre, e1, e2, decide_eq_true h2, Bool.true_and]
theorem pre_short (s : ByteArray) (h2 : ¬ 2 ≤ s.size) : hasPre s sg16 = false := by
  have e1 : sg16.size = 2 := by decide +kernel
  rw [hasPre, e1, decide_eq_false h2, Bool.false_and]
end Go.Pl
namespace Go.Proofs.Ytcipmpamhffclaa
open Go.Sx Go.Pl Go.RowKit
theorem rpB16 (s : ByteArray) : ((xgo Try.prog X (bodyOf Try.f23) 85 TK [] 60 [.f, .t, .t] ((.nil)) [.at []] ⟨argsTm 0 [.string s], []⟩ [] []).map (trims [10, 0, 8, 9, 6, 5, 4, 7, 2, 3])) =
  some [Leaf2.mk [] [fun _ => decide ((100000 : Int) < (↑(ByteArray.size s) : Int)) = false,
    fun _ => decide ((2 : Int) ≤ (↑(ByteArray.size s) : Int)) = true,
    fun _ => (0 : Int) ≤ (2 : Int) ∧ (2 : Int) ≤ (↑(ByteArray.size s) : Int),
    fun _ => (ByteArray.toList (ByteArray.extract s (0 : Nat) (2 : Nat)) == [ByteArray.get! (ByteArray.mk (Array.mk [OfNat.ofNat (48 : Nat), OfNat.ofNat (120 : Nat)])) (0 : Nat), ByteArray.get! (ByteArray.mk (Array.mk [OfNat.ofNat (48 : Nat), OfNat.ofNat (120 : Nat)])) (1 : Nat)]) = true,
    fun _ => (0 : Int) ≤ (2 : Int) ∧ (2 : Int) ≤ (↑(ByteArray.size s) : Int),
    fun _ => (4 : Nat) ≤ (4 : Nat)] [It.at [(0 : Nat), (1 : Nat), (0 : Nat), (1 : Nat), (1 : Nat), (1 : Nat), (1 : Nat), (1 : Nat), (1 : Nat), (1 : Nat), (1 : Nat), (1 : Nat)], It.blk (0 : Nat), It.at [(1 : Nat), (1 : Nat), (1 : Nat), (1 : Nat), (1 : Nat), (1 : Nat), (1 : Nat), (1 : Nat), (1 : Nat), (1 : Nat)]] (St.mk [((10 : Nat), SV.v (Value.int IntKind.i64 (0 : Int))), ((0 : Nat), SV.v (Value.string (ByteArray.extract s (2 : Nat) (ByteArray.size s)))), ((8 : Nat), SV.v (Value.int IntKind.i64 (0 : Int))), ((9 : Nat), SV.v (Value.bool false)), ((6 : Nat), SV.p (1 : Nat) (0 : Nat)), ((5 : Nat), SV.v (Value.int IntKind.i64 (16 : Int))), ((4 : Nat), SV.v (Value.bool (ByteArray.toList (ByteArray.extract s (0 : Nat) (2 : Nat)) == [ByteArray.get! (ByteArray.mk (Array.mk [OfNat.ofNat (48 : Nat), OfNat.ofNat (120 : Nat)])) (0 : Nat), ByteArray.get! (ByteArray.mk (Array.mk [OfNat.ofNat (48 : Nat), OfNat.ofNat (120 : Nat)])) (1 : Nat)]))), ((7 : Nat), SV.v (Value.bool false)), ((2 : Nat), SV.p (0 : Nat) (0 : Nat)), ((3 : Nat), SV.v (Value.int IntKind.i64 (0 : Int)))] [HO.cells [SV.v (Value.int IntKind.u64 (0 : Int)), SV.v (Value.int IntKind.u64 (0 : Int)), SV.v (Value.int IntKind.u64 (0 : Int)), SV.v (Value.int IntKind.u64 (0 : Int))] (24 : Nat), HO.cells [SV.v (Value.int IntKind.u64 (0 : Int)), SV.v (Value.int IntKind.u64 (0 : Int)), SV.v (Value.int IntKind.u64 (0 : Int)), SV.v (Value.int IntKind.u64 (0 : Int))] (24 : Nat)])]
  := by kernel_rfl

theorem rpB10 (s : ByteArray) : ((xgo Try.prog X (bodyOf Try.f23) 85 TK [] 60 [.f, .t, .f] ((.nil)) [.at []] ⟨argsTm 0 [.string s], []⟩ [] []).map (trims [10, 0, 8, 9, 6, 5, 4, 7, 2, 3])) =
  some [Leaf2.mk [] [fun _ => decide ((100000 : Int) < (↑(ByteArray.size s) : Int)) = false,
    fun _ => decide ((2 : Int) ≤ (↑(ByteArray.size s) : Int)) = true,
    fun _ => (0 : Int) ≤ (2 : Int) ∧ (2 : Int) ≤ (↑(ByteArray.size s) : Int),
    fun _ => (ByteArray.toList (ByteArray.extract s (0 : Nat) (2 : Nat)) == [ByteArray.get! (ByteArray.mk (Array.mk [OfNat.ofNat (48 : Nat), OfNat.ofNat (120 : Nat)])) (0 : Nat), ByteArray.get! (ByteArray.mk (Array.mk [OfNat.ofNat (48 : Nat), OfNat.ofNat (120 : Nat)])) (1 : Nat)]) = false,
    fun _ => (4 : Nat) ≤ (4 : Nat)] [It.at [(0 : Nat), (1 : Nat), (0 : Nat), (1 : Nat), (1 : Nat), (1 : Nat), (1 : Nat), (1 : Nat), (1 : Nat), (1 : Nat), (1 : Nat), (1 : Nat)], It.blk (0 : Nat), It.at [(1 : Nat), (1 : Nat), (1 : Nat), (1 : Nat), (1 : Nat), (1 : Nat), (1 : Nat), (1 : Nat), (1 : Nat), (1 : Nat)]] (St.mk [((10 : Nat), SV.v (Value.int IntKind.i64 (0 : Int))), ((0 : Nat), SV.v (Value.string s)), ((8 : Nat), SV.v (Value.int IntKind.i64 (0 : Int))), ((9 : Nat), SV.v (Value.bool false)), ((6 : Nat), SV.p (1 : Nat) (0 : Nat)), ((5 : Nat), SV.v (Value.int IntKind.i64 (10 : Int))), ((4 : Nat), SV.v (Value.bool (ByteArray.toList (ByteArray.extract s (0 : Nat) (2 : Nat)) == [ByteArray.get! (ByteArray.mk (Array.mk [OfNat.ofNat (48 : Nat), OfNat.ofNat (120 : Nat)])) (0 : Nat), ByteArray.get! (ByteArray.mk (Array.mk [OfNat.ofNat (48 : Nat), OfNat.ofNat (120 : Nat)])) (1 : Nat)]))), ((7 : Nat), SV.v (Value.bool false)), ((2 : Nat), SV.p (0 : Nat) (0 : Nat)), ((3 : Nat), SV.v (Value.int IntKind.i64 (0 : Int)))] [HO.cells [SV.v (Value.int IntKind.u64 (0 : Int)), SV.v (Value.int IntKind.u64 (0 : Int)), SV.v (Value.int IntKind.u64 (0 : Int)), SV.v (Value.int IntKind.u64 (0 : Int))] (24 : Nat), HO.cells [SV.v (Value.int IntKind.u64 (0 : Int)), SV.v (Value.int IntKind.u64 (0 : Int)), SV.v (Value.int IntKind.u64 (0 : Int)), SV.v (Value.int IntKind.u64 (0 : Int))] (24 : Nat)])]
  := by kernel_rfl

theorem rpB9 (s : ByteArray) : ((xgo Try.prog X (bodyOf Try.f23) 85 TK [] 60 [.f, .f, .f] ((.nil)) [.at []] ⟨argsTm 0 [.string s], []⟩ [] []).map (trims [10, 0, 8, 9, 6, 5, 4, 7, 2, 3])) =
  some [Leaf2.mk [] [fun _ => decide ((100000 : Int) < (↑(ByteArray.size s) : Int)) = false,
    fun _ => decide ((2 : Int) ≤ (↑(ByteArray.size s) : Int)) = false,
    fun _ => false = false,
    fun _ => (4 : Nat) ≤ (4 : Nat)] [It.at [(0 : Nat), (1 : Nat), (0 : Nat), (1 : Nat), (1 : Nat), (1 : Nat), (1 : Nat), (1 : Nat), (1 : Nat), (1 : Nat), (1 : Nat), (1 : Nat)], It.blk (0 : Nat), It.at [(1 : Nat), (1 : Nat), (1 : Nat), (1 : Nat), (1 : Nat), (1 : Nat), (1 : Nat), (1 : Nat), (1 : Nat), (1 : Nat)]] (St.mk [((10 : Nat), SV.v (Value.int IntKind.i64 (0 : Int))), ((0 : Nat), SV.v (Value.string s)), ((8 : Nat), SV.v (Value.int IntKind.i64 (0 : Int))), ((9 : Nat), SV.v (Value.bool false)), ((6 : Nat), SV.p (1 : Nat) (0 : Nat)), ((5 : Nat), SV.v (Value.int IntKind.i64 (10 : Int))), ((4 : Nat), SV.v (Value.bool false)), ((7 : Nat), SV.v (Value.bool false)), ((2 : Nat), SV.p (0 : Nat) (0 : Nat)), ((3 : Nat), SV.v (Value.int IntKind.i64 (0 : Int)))] [HO.cells [SV.v (Value.int IntKind.u64 (0 : Int)), SV.v (Value.int IntKind.u64 (0 : Int)), SV.v (Value.int IntKind.u64 (0 : Int)), SV.v (Value.int IntKind.u64 (0 : Int))] (24 : Nat), HO.cells [SV.v (Value.int IntKind.u64 (0 : Int)), SV.v (Value.int IntKind.u64 (0 : Int)), SV.v (Value.int IntKind.u64 (0 : Int)), SV.v (Value.int IntKind.u64 (0 : Int))] (24 : Nat)])]
  := by kernel_rfl

theorem rpBL (s : ByteArray) : (((xgo Try.prog X (bodyOf Try.f23) 85 TK [] 60 [.t] ((.nil)) [.at []] ⟨argsTm 0 [.string s], []⟩ [] []).bind (ends Try.prog Try.f23.results.toList)).bind plainE) =
  some [EndP.mk [] [fun _ => decide ((100000 : Int) < (↑(ByteArray.size s) : Int)) = true,
    fun _ => (4 : Nat) ≤ (4 : Nat)] (Res.v (Value.tuple (Array.mk [Value.agg (Array.mk [Value.int IntKind.u64 (0 : Int), Value.int IntKind.u64 (0 : Int), Value.int IntKind.u64 (0 : Int), Value.int IntKind.u64 (0 : Int)]), Value.int IntKind.i64 (12 : Int)])))]
  := by kernel_rfl


theorem rparse_ok (s : ByteArray) (w : World) : Calls Try.prog 23 [.string s].toArray w (fun E w' => ∃ v, E = .returned v ∧ Res.ok w w' (.v (.tuple #[el (pN s), .int .i64 ((pE s : Nat) : Int)])) v ∧ Below w.heap.size w w') := by
  have hval : Value.tuple #[el (pN s), .int .i64 ((pE s : Nat) : Int)] = pVal (pAll s) := by rw [pVal, pN, pE, hide_eq, hide_eq]
  rw [hval]
  have hF := F0.mono w
  by_cases h0 : 100000 < s.size
  · rw [pAll, if_pos h0]
    refine con_end (calls_plain hm Try.func23 (by kernel_rfl) rfl rfl 60 _ _ (rpBL s) ⟨fun _ => ⟨?_, ?_⟩, trivial⟩)
    · simp only [hold_cons, hold_nil, and_true]
      exact ⟨fun _ _ => decide_eq_true (by omega), fun _ _ => by omega⟩
    · rw [zel]; rfl
  · rw [pAll, if_neg h0]
    have hl : decide ((100000 : Int) < (s.size : Int)) = false := decide_eq_false (by omega)
    have ten : ∀ w0 : World, w0 = w → Ok Try.prog (bodyOf Try.f23) 85 (F0 w) w (bodyPost Try.prog Try.f23 fun E w' => ∃ (v : Value) (r : Res), E = .returned v ∧ r = Res.v (pVal (pRes 10 s)) ∧ r.ok w w' v ∧ Below w.heap.size w w') (.rnd qR (s.size + 2) :: [.blk 0, .at [1,1,1,1,1,1,1,1,1,1]]) (stR s false 10 0 0 0 false false) := fun _ _ =>
      rpar_loop s false 10 rfl (by omega) (fun r => r = .v (pVal (pRes 10 s))) s.size 0 0 0 false false top_pos (by omega) (by omega) (by omega) rfl
    by_cases h2 : 2 ≤ s.size
    · have hpe := pre_eq s h2
      cases hp : hasPre s sg16 with
      | true =>
        rw [hp] at hpe
        rw [if_pos rfl]
        refine con_end (calls_of_ok (B := bodyOf Try.f23) (n := 85) Try.func23 (by kernel_rfl) rfl rfl (F := F0 w) (fun _ _ h => h) ?_)
        refine xgo_trim hm hF finB 60 _ _ _ _ _ _ (rpB16 s) (paidCons (fun _ => ⟨?_, ?_⟩) paidNil)
        · simp only [hold_cons, hold_nil, and_true]
          exact ⟨fun _ _ => hl, fun _ _ => decide_eq_true (by omega), fun _ _ => ⟨by omega, by omega⟩, fun _ _ => hpe.symm, fun _ _ => ⟨by omega, by omega⟩, fun _ _ => by omega⟩
        · simp only [← hpe]
          have hz : (s.extract 2 s.size).size ≤ 100000 := by rw [ByteArray.size_extract]; omega
          refine ok_mono (st := stR (s.extract 2 s.size) true 16 0 0 0 false false) (by rw [stR, ec0]; rfl) (Ok.loop ((s.extract 2 s.size).size + 2) (by kernel_rfl) ?_)
          exact rpar_loop (s.extract 2 s.size) true 16 rfl hz (fun r => r = .v (pVal (pRes 16 (s.extract 2 s.size)))) (s.extract 2 s.size).size 0 0 0 false false top_pos (by omega) (by omega) (by omega) rfl
      | false =>
        rw [hp] at hpe
        rw [if_neg (by simp)]
        refine con_end (calls_of_ok (B := bodyOf Try.f23) (n := 85) Try.func23 (by kernel_rfl) rfl rfl (F := F0 w) (fun _ _ h => h) ?_)
        refine xgo_trim hm hF finB 60 _ _ _ _ _ _ (rpB10 s) (paidCons (fun _ => ⟨?_, ?_⟩) paidNil)
        · simp only [hold_cons, hold_nil, and_true]
          exact ⟨fun _ _ => hl, fun _ _ => decide_eq_true (by omega), fun _ _ => ⟨by omega, by omega⟩, fun _ _ => hpe.symm, fun _ _ => by omega⟩
        · simp only [← hpe]
          exact ok_mono (st := stR s false 10 0 0 0 false false) (by rw [stR, ec0]; rfl) (Ok.loop (s.size + 2) (by kernel_rfl) (ten w rfl))
    · rw [pre_short s h2, if_neg (by simp)]
      refine con_end (calls_of_ok (B := bodyOf Try.f23) (n := 85) Try.func23 (by kernel_rfl) rfl rfl (F := F0 w) (fun _ _ h => h) ?_)
      refine xgo_trim hm hF finB 60 _ _ _ _ _ _ (rpB9 s) (paidCons (fun _ => ⟨?_, ?_⟩) paidNil)
      · simp only [hold_cons, hold_nil, and_true]
        exact ⟨fun _ _ => hl, fun _ _ => decide_eq_false (by omega), fun _ _ => trivial, fun _ _ => by omega⟩
      · exact ok_mono (st := stR s false 10 0 0 0 false false) (by rw [stR, ec0]; rfl) (Ok.loop (s.size + 2) (by kernel_rfl) (ten w rfl))
theorem gRParse_ok (rvs : List RV) (r : Res) (p : Prop) (vs : List Value) (w : World) (hg : gParse rvs = some (r, p)) (hp : p) (hv : RVs (wmem w) rvs vs) : Calls Try.prog 23 vs.toArray w (fun E w' => ∃ v, E = .returned v ∧ r.ok w w' v ∧ Below w.heap.size w w') := by
  unfold gParse at hg
  split at hg
  · rename_i s
    simp only [Option.some.injEq, Prod.mk.injEq] at hg
    obtain ⟨rfl, rfl⟩ := hg
    match vs, hv with
    | [y], ⟨h1, _⟩ =>
      rw [h1]
      exact rparse_ok s w
  · cases hg
noncomputable def TL : Con Try.prog := TK.add 23 gParse gRParse_ok
end Go.Proofs.Ytcipmpamhffclaa
