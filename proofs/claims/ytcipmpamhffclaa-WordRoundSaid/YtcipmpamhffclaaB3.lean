/- The bits of a number, as the document has them: states. -/
import Derived.Test.YtcipmpamhffclaaW12
namespace Go.Proofs.Ytcipmpamhffclaa
open Go.Sx Go.Pl Go.RowKit
def qB : List Nat := [0,0,1,1,0,0,1,0,0,1,0,1,1]
noncomputable def stB (a v : Nat) (i j : Int) (n : Nat) (xs : List SV) : St :=
  ⟨[(5, .v (.int .u64 (v : Int))), (6, .v (.int .i64 j)), (3, .o 1), (4, .v (.int .i64 i)), (1, .p 0 0)], [.cells (ec a) 24, .row 3 1 n xs]⟩
end Go.Proofs.Ytcipmpamhffclaa

namespace Go.Pl
/-- So many bits, the least first. -/
def nb : Nat → Nat → List Nat
  | _, 0 => []
  | v, k + 1 => v % 2 :: nb (v / 2) k
theorem nb_length (v k : Nat) : (nb v k).length = k := by
  induction k generalizing v with
  | zero => rfl
  | succ k ih => simp [nb, ih]
theorem nb_add (v k m : Nat) : nb v (k + m) = nb v k ++ nb (v / 2 ^ k) m := by
  induction k generalizing v with
  | zero => simp [nb]
  | succ k ih =>
    rw [show k + 1 + m = (k + m) + 1 by omega]
    simp only [nb, ih, List.cons_append]
    rw [Nat.div_div_eq_div_mul, ← Nat.pow_succ']
theorem nb_mod (v k m : Nat) (h : k ≤ m) : nb (v % 2 ^ m) k = nb v k := by
  induction k generalizing v m with
  | zero => rfl
  | succ k ih =>
    cases m with
    | zero => omega
    | succ m =>
      simp only [nb]
      have h1 : v % 2 ^ (m + 1) % 2 = v % 2 := by rw [Nat.pow_succ', Nat.mod_mul_right_mod]
      have h2 : v % 2 ^ (m + 1) / 2 = v / 2 % 2 ^ m := by rw [Nat.pow_succ', Nat.mod_mul_right_div_self]
      rw [h1, h2, ih (v / 2) m (by omega)]
/-- Bits as values. -/
def bl (l : List Nat) : List Value := l.map fun (b : Nat) => Value.int .i64 (b : Int)
theorem bl_snoc (l : List Nat) (b : Nat) : (bl l).map Go.Sx.SV.v ++ [Go.Sx.SV.v (.int .i64 (b : Int))] = (bl (l ++ [b])).map Go.Sx.SV.v := by simp [bl]
end Go.Pl
namespace Go.Proofs.Ytcipmpamhffclaa
open Go.Sx Go.Pl Go.RowKit
theorem bitsRound (a v n M : Nat) (i j : Int) (xs : List SV) (kt : List It) : (xgo Try.prog X (bodyOf Try.f25) 28 CC [] 30 [.t] (.nil) (.at qB :: .rnd qB (M + 1) :: kt) (stB a v i j n xs) [] []) =
  some
  [Leaf2.mk []
      [fun _ => decide (j < (64 : Int)) = true, fun _ => ¬(2 : Int) = (0 : Int), fun _ =>
        (n + (1 : Nat)) * (8 : Nat) ≤ (140737488355328 : Nat) ∧ n + (1 : Nat) ≤ (140737488355328 : Nat), fun _ =>
        ¬(2 : Int) = (0 : Int)]
      (It.rnd
          [(0 : Nat), (0 : Nat), (1 : Nat), (1 : Nat), (0 : Nat), (0 : Nat), (1 : Nat), (0 : Nat), (0 : Nat), (1 : Nat),
            (0 : Nat), (1 : Nat), (1 : Nat)]
          (M + (1 : Nat)) ::
        kt)
      (St.mk
        [((6 : Nat), SV.v (Value.int IntKind.i64 (IntKind.wrap IntKind.i64 (j + (1 : Int))))),
          ((18 : Nat), SV.v (Value.int IntKind.i64 (IntKind.wrap IntKind.i64 (j + (1 : Int))))),
          ((17 : Nat), SV.v (Value.int IntKind.i64 j)),
          ((5 : Nat), SV.v (Value.int IntKind.u64 (IntKind.wrap IntKind.u64 (Int.tdiv (↑v : Int) (2 : Int))))),
          ((26 : Nat), SV.v (Value.int IntKind.u64 (IntKind.wrap IntKind.u64 (Int.tdiv (↑v : Int) (2 : Int))))),
          ((25 : Nat), SV.v (Value.int IntKind.u64 (↑v : Int))), ((3 : Nat), SV.o (3 : Nat)),
          ((24 : Nat), SV.o (3 : Nat)), ((23 : Nat), SV.o (2 : Nat)),
          ((22 : Nat), SV.v (Value.int IntKind.i64 (IntKind.wrap IntKind.i64 (Int.tmod (↑v : Int) (2 : Int))))),
          ((21 : Nat), SV.v (Value.int IntKind.u64 (Int.tmod (↑v : Int) (2 : Int)))),
          ((20 : Nat), SV.v (Value.int IntKind.u64 (↑v : Int))), ((19 : Nat), SV.o (1 : Nat)),
          ((16 : Nat), SV.v (Value.bool (decide (j < (64 : Int))))), ((15 : Nat), SV.v (Value.int IntKind.i64 j)),
          ((4 : Nat), SV.v (Value.int IntKind.i64 i)), ((1 : Nat), SV.p (0 : Nat) (0 : Nat))]
        [HO.cells
            [SV.v (Value.int IntKind.u64 (↑(limb a (0 : Nat)) : Int)),
              SV.v (Value.int IntKind.u64 (↑(limb a (1 : Nat)) : Int)),
              SV.v (Value.int IntKind.u64 (↑(limb a (2 : Nat)) : Int)),
              SV.v (Value.int IntKind.u64 (↑(limb a (3 : Nat)) : Int))]
            (24 : Nat),
          HO.gone,
          HO.row (3 : Nat) (1 : Nat) (1 : Nat)
            [SV.v (Value.int IntKind.i64 (IntKind.wrap IntKind.i64 (Int.tmod (↑v : Int) (2 : Int))))],
          HO.row (3 : Nat) (1 : Nat) (n + (1 : Nat))
            (xs ++ [SV.v (Value.int IntKind.i64 (IntKind.wrap IntKind.i64 (Int.tmod (↑v : Int) (2 : Int))))])])] := by kernel_rfl

theorem renL_mapv (π : List Nat) (l : List Value) : renL π (l.map SV.v) = l.map SV.v := by
  induction l with
  | nil => rfl
  | cons x r ih => simp [renL, renS, ih]
theorem wrap_i64 (z : Nat) (h : z < 9223372036854775808) : IntKind.wrap .i64 (z : Int) = z := by
  simp [IntKind.wrap, IntKind.bits, IntKind.signed]
  omega
theorem bits_round {F : Mem → Prop} (hF : Mono F) {w0 : World} {fin : Exit → Act → World → Prop} (hfin : ∀ c (a : Act) (d : Option Tmp) (v : Value) (w : World), fin (.panic c) (a.put d v) w → fin (.panic c) a w)
    (a v n M j : Nat) (i : Int) (l : List Nat) (kt : List It) (hj : j < 64) (hv : v < 18446744073709551616) (hn : n ≤ 1000)
    (next : Ok Try.prog (bodyOf Try.f25) 28 F w0 fin (.rnd qB (M + 1) :: kt) (stB a (v / 2) i ((j + 1 : Nat) : Int) (n + 1) ((bl (l ++ [v % 2])).map SV.v))) :
    Ok Try.prog (bodyOf Try.f25) 28 F w0 fin (.at qB :: .rnd qB (M + 1) :: kt) (stB a v i (j : Int) n ((bl l).map SV.v)) := by
  have e1 : IntKind.wrap .i64 ((j : Int) + 1) = ((j + 1 : Nat) : Int) := wrap_i64 (j + 1) (by omega)
  have e2 : Int.tdiv (v : Int) 2 = ((v / 2 : Nat) : Int) := tdivNat v 2
  have e3 : IntKind.wrap .u64 ((v / 2 : Nat) : Int) = ((v / 2 : Nat) : Int) := by rw [wrap_u64]; omega
  have e4 : Int.tmod (v : Int) 2 = ((v % 2 : Nat) : Int) := tmodNat v 2
  have e5 : IntKind.wrap .i64 ((v % 2 : Nat) : Int) = ((v % 2 : Nat) : Int) := wrap_i64 (v % 2) (by omega)
  refine (xgo_sound hm hF hfin 30 _ _ _ _ [] [] _ (bitsRound a v n M i j _ kt) (paid_cons (fun _ => ⟨?_, ?_⟩) paid_nil) (fun a ha => by cases ha)).2
  · simp only [hold_cons, hold_nil, and_true]
    exact ⟨fun _ _ => decide_eq_true (by omega), fun _ _ => by omega, fun _ _ => ⟨by omega, by omega⟩, fun _ _ => by omega⟩
  · refine Ok.weaken hF [0, 3] (stB a (v / 2) i ((j + 1 : Nat) : Int) (n + 1) ((bl (l ++ [v % 2])).map SV.v)) ?_ ?_ rfl ⟨?_, ?_, ?_, trivial⟩ next
    · refine ⟨?_, congrArg (fun z => some (SV.v (Value.int IntKind.i64 z))) e1, rfl, rfl, rfl, trivial⟩
      exact congrArg (fun z => some (SV.v (Value.int IntKind.u64 z))) (by rw [e2, e3])
    · refine ⟨rfl, ?_, trivial⟩
      show some (HO.row 3 1 (n + 1) (List.map SV.v (bl l) ++ [SV.v (Value.int IntKind.i64 (IntKind.wrap IntKind.i64 (Int.tmod (v : Int) 2)))])) = some (HO.row 3 1 (n + 1) (renL [0, 3] ((bl (l ++ [v % 2])).map SV.v)))
      rw [e4, e5, bl_snoc, renL_mapv]
    · simp [stB, wsAllT, ws]
    · simp [HO.ws, ec, wsL, ws]
    · exact wsL_mapv _ _
end Go.Proofs.Ytcipmpamhffclaa

namespace Go.Proofs.Ytcipmpamhffclaa
open Go.Sx Go.Pl Go.RowKit
theorem bitsExit (a v n : Nat) (i : Int) (xs : List SV) (KT : List It) : (xrun Try.prog X (bodyOf Try.f25) 28 8 [.f] (.at qB :: .rnd qB 1 :: .blk 2 :: KT) (stB a v i 64 n xs) []) =
  some
  [Leaf.mk [fun _ => false = false] KT
      (St.mk
        [((16 : Nat), SV.v (Value.bool false)), ((15 : Nat), SV.v (Value.int IntKind.i64 (64 : Int))),
          ((5 : Nat), SV.v (Value.int IntKind.u64 (↑v : Int))), ((6 : Nat), SV.v (Value.int IntKind.i64 (64 : Int))),
          ((3 : Nat), SV.o (1 : Nat)), ((4 : Nat), SV.v (Value.int IntKind.i64 i)),
          ((1 : Nat), SV.p (0 : Nat) (0 : Nat))]
        [HO.cells
            [SV.v (Value.int IntKind.u64 (↑(limb a (0 : Nat)) : Int)),
              SV.v (Value.int IntKind.u64 (↑(limb a (1 : Nat)) : Int)),
              SV.v (Value.int IntKind.u64 (↑(limb a (2 : Nat)) : Int)),
              SV.v (Value.int IntKind.u64 (↑(limb a (3 : Nat)) : Int))]
            (24 : Nat),
          HO.row (3 : Nat) (1 : Nat) n xs])
      []] := by kernel_rfl
theorem bitsStart (a : Nat) : (xgo Try.prog X (bodyOf Try.f25) 28 CC [([0,1,0,1,1],5)] 50 [Dec.t] (Tree.nil) [.at []] ⟨argsTm 0 [el a], []⟩ [] []) =
  some
  [Leaf2.mk [] [fun _ => true = true, fun _ => (0 : Int) ≤ (0 : Int) ∧ (0 : Int) < (4 : Int)]
      [It.at
          [(0 : Nat), (1 : Nat), (1 : Nat), (0 : Nat), (0 : Nat), (1 : Nat), (0 : Nat), (0 : Nat), (1 : Nat), (0 : Nat),
            (1 : Nat), (1 : Nat)],
        It.blk (2 : Nat), It.blk (1 : Nat),
        It.at [(1 : Nat), (1 : Nat), (0 : Nat), (0 : Nat), (1 : Nat), (0 : Nat), (1 : Nat), (1 : Nat)],
        It.rnd [(0 : Nat), (0 : Nat), (1 : Nat), (0 : Nat), (1 : Nat), (1 : Nat)] (4 : Nat), It.blk (0 : Nat),
        It.at [(1 : Nat), (1 : Nat), (1 : Nat)]]
      (St.mk
        [((6 : Nat), SV.v (Value.int IntKind.i64 (0 : Int))),
          ((5 : Nat), SV.v (Value.int IntKind.u64 (↑(limb a (0 : Nat)) : Int))),
          ((14 : Nat), SV.v (Value.int IntKind.u64 (↑(limb a (0 : Nat)) : Int))),
          ((13 : Nat), SV.p (0 : Nat) (0 : Nat)), ((12 : Nat), SV.v (Value.int IntKind.i64 (0 : Int))),
          ((9 : Nat), SV.v (Value.bool true)), ((8 : Nat), SV.v (Value.int IntKind.i64 (0 : Int))),
          ((4 : Nat), SV.v (Value.int IntKind.i64 (0 : Int))), ((3 : Nat), SV.o (1 : Nat)), ((7 : Nat), SV.o (1 : Nat)),
          ((2 : Nat), SV.v (Value.slice none (0 : Nat) (0 : Nat))), ((1 : Nat), SV.p (0 : Nat) (0 : Nat)),
          ((0 : Nat), SV.v (el a))]
        [HO.cells
            [SV.v (Value.int IntKind.u64 (↑(limb a (0 : Nat)) : Int)),
              SV.v (Value.int IntKind.u64 (↑(limb a (1 : Nat)) : Int)),
              SV.v (Value.int IntKind.u64 (↑(limb a (2 : Nat)) : Int)),
              SV.v (Value.int IntKind.u64 (↑(limb a (3 : Nat)) : Int))]
            (24 : Nat),
          HO.row (3 : Nat) (1 : Nat) (0 : Nat) []])]
 := by kernel_rfl

theorem bitsMid0 (a v n : Nat) (xs : List SV) : (xgo Try.prog X (bodyOf Try.f25) 28 CC [([0,1,0,1,1],5)] 50 [Dec.t] (Tree.nil) [.blk 1, .at [1,1,0,0,1,0,1,1], .rnd [0,0,1,0,1,1] 4, .blk 0, .at [1,1,1]] (stB a v 0 64 n xs) [] []) =
  some
  [Leaf2.mk [] [fun _ => true = true, fun _ => (0 : Int) ≤ (1 : Int) ∧ (1 : Int) < (4 : Int)]
      [It.at
          [(0 : Nat), (1 : Nat), (1 : Nat), (0 : Nat), (0 : Nat), (1 : Nat), (0 : Nat), (0 : Nat), (1 : Nat), (0 : Nat),
            (1 : Nat), (1 : Nat)],
        It.blk (2 : Nat), It.blk (1 : Nat),
        It.at [(1 : Nat), (1 : Nat), (0 : Nat), (0 : Nat), (1 : Nat), (0 : Nat), (1 : Nat), (1 : Nat)],
        It.rnd [(0 : Nat), (0 : Nat), (1 : Nat), (0 : Nat), (1 : Nat), (1 : Nat)] (3 : Nat), It.blk (0 : Nat),
        It.at [(1 : Nat), (1 : Nat), (1 : Nat)]]
      (St.mk
        [((6 : Nat), SV.v (Value.int IntKind.i64 (0 : Int))),
          ((5 : Nat), SV.v (Value.int IntKind.u64 (↑(limb a (1 : Nat)) : Int))),
          ((14 : Nat), SV.v (Value.int IntKind.u64 (↑(limb a (1 : Nat)) : Int))),
          ((13 : Nat), SV.p (0 : Nat) (1 : Nat)), ((12 : Nat), SV.v (Value.int IntKind.i64 (1 : Int))),
          ((9 : Nat), SV.v (Value.bool true)), ((8 : Nat), SV.v (Value.int IntKind.i64 (1 : Int))),
          ((4 : Nat), SV.v (Value.int IntKind.i64 (1 : Int))), ((11 : Nat), SV.v (Value.int IntKind.i64 (1 : Int))),
          ((10 : Nat), SV.v (Value.int IntKind.i64 (0 : Int))), ((3 : Nat), SV.o (1 : Nat)),
          ((1 : Nat), SV.p (0 : Nat) (0 : Nat))]
        [HO.cells
            [SV.v (Value.int IntKind.u64 (↑(limb a (0 : Nat)) : Int)),
              SV.v (Value.int IntKind.u64 (↑(limb a (1 : Nat)) : Int)),
              SV.v (Value.int IntKind.u64 (↑(limb a (2 : Nat)) : Int)),
              SV.v (Value.int IntKind.u64 (↑(limb a (3 : Nat)) : Int))]
            (24 : Nat),
          HO.row (3 : Nat) (1 : Nat) n xs])]
 := by kernel_rfl

theorem bitsMid1 (a v n : Nat) (xs : List SV) : (xgo Try.prog X (bodyOf Try.f25) 28 CC [([0,1,0,1,1],5)] 50 [Dec.t] (Tree.nil) [.blk 1, .at [1,1,0,0,1,0,1,1], .rnd [0,0,1,0,1,1] 3, .blk 0, .at [1,1,1]] (stB a v 1 64 n xs) [] []) =
  some
  [Leaf2.mk [] [fun _ => true = true, fun _ => (0 : Int) ≤ (2 : Int) ∧ (2 : Int) < (4 : Int)]
      [It.at
          [(0 : Nat), (1 : Nat), (1 : Nat), (0 : Nat), (0 : Nat), (1 : Nat), (0 : Nat), (0 : Nat), (1 : Nat), (0 : Nat),
            (1 : Nat), (1 : Nat)],
        It.blk (2 : Nat), It.blk (1 : Nat),
        It.at [(1 : Nat), (1 : Nat), (0 : Nat), (0 : Nat), (1 : Nat), (0 : Nat), (1 : Nat), (1 : Nat)],
        It.rnd [(0 : Nat), (0 : Nat), (1 : Nat), (0 : Nat), (1 : Nat), (1 : Nat)] (2 : Nat), It.blk (0 : Nat),
        It.at [(1 : Nat), (1 : Nat), (1 : Nat)]]
      (St.mk
        [((6 : Nat), SV.v (Value.int IntKind.i64 (0 : Int))),
          ((5 : Nat), SV.v (Value.int IntKind.u64 (↑(limb a (2 : Nat)) : Int))),
          ((14 : Nat), SV.v (Value.int IntKind.u64 (↑(limb a (2 : Nat)) : Int))),
          ((13 : Nat), SV.p (0 : Nat) (2 : Nat)), ((12 : Nat), SV.v (Value.int IntKind.i64 (2 : Int))),
          ((9 : Nat), SV.v (Value.bool true)), ((8 : Nat), SV.v (Value.int IntKind.i64 (2 : Int))),
          ((4 : Nat), SV.v (Value.int IntKind.i64 (2 : Int))), ((11 : Nat), SV.v (Value.int IntKind.i64 (2 : Int))),
          ((10 : Nat), SV.v (Value.int IntKind.i64 (1 : Int))), ((3 : Nat), SV.o (1 : Nat)),
          ((1 : Nat), SV.p (0 : Nat) (0 : Nat))]
        [HO.cells
            [SV.v (Value.int IntKind.u64 (↑(limb a (0 : Nat)) : Int)),
              SV.v (Value.int IntKind.u64 (↑(limb a (1 : Nat)) : Int)),
              SV.v (Value.int IntKind.u64 (↑(limb a (2 : Nat)) : Int)),
              SV.v (Value.int IntKind.u64 (↑(limb a (3 : Nat)) : Int))]
            (24 : Nat),
          HO.row (3 : Nat) (1 : Nat) n xs])]
 := by kernel_rfl

theorem bitsMid2 (a v n : Nat) (xs : List SV) : (xgo Try.prog X (bodyOf Try.f25) 28 CC [([0,1,0,1,1],5)] 50 [Dec.t] (Tree.nil) [.blk 1, .at [1,1,0,0,1,0,1,1], .rnd [0,0,1,0,1,1] 2, .blk 0, .at [1,1,1]] (stB a v 2 64 n xs) [] []) =
  some
  [Leaf2.mk [] [fun _ => true = true, fun _ => (0 : Int) ≤ (3 : Int) ∧ (3 : Int) < (4 : Int)]
      [It.at
          [(0 : Nat), (1 : Nat), (1 : Nat), (0 : Nat), (0 : Nat), (1 : Nat), (0 : Nat), (0 : Nat), (1 : Nat), (0 : Nat),
            (1 : Nat), (1 : Nat)],
        It.blk (2 : Nat), It.blk (1 : Nat),
        It.at [(1 : Nat), (1 : Nat), (0 : Nat), (0 : Nat), (1 : Nat), (0 : Nat), (1 : Nat), (1 : Nat)],
        It.rnd [(0 : Nat), (0 : Nat), (1 : Nat), (0 : Nat), (1 : Nat), (1 : Nat)] (1 : Nat), It.blk (0 : Nat),
        It.at [(1 : Nat), (1 : Nat), (1 : Nat)]]
      (St.mk
        [((6 : Nat), SV.v (Value.int IntKind.i64 (0 : Int))),
          ((5 : Nat), SV.v (Value.int IntKind.u64 (↑(limb a (3 : Nat)) : Int))),
          ((14 : Nat), SV.v (Value.int IntKind.u64 (↑(limb a (3 : Nat)) : Int))),
          ((13 : Nat), SV.p (0 : Nat) (3 : Nat)), ((12 : Nat), SV.v (Value.int IntKind.i64 (3 : Int))),
          ((9 : Nat), SV.v (Value.bool true)), ((8 : Nat), SV.v (Value.int IntKind.i64 (3 : Int))),
          ((4 : Nat), SV.v (Value.int IntKind.i64 (3 : Int))), ((11 : Nat), SV.v (Value.int IntKind.i64 (3 : Int))),
          ((10 : Nat), SV.v (Value.int IntKind.i64 (2 : Int))), ((3 : Nat), SV.o (1 : Nat)),
          ((1 : Nat), SV.p (0 : Nat) (0 : Nat))]
        [HO.cells
            [SV.v (Value.int IntKind.u64 (↑(limb a (0 : Nat)) : Int)),
              SV.v (Value.int IntKind.u64 (↑(limb a (1 : Nat)) : Int)),
              SV.v (Value.int IntKind.u64 (↑(limb a (2 : Nat)) : Int)),
              SV.v (Value.int IntKind.u64 (↑(limb a (3 : Nat)) : Int))]
            (24 : Nat),
          HO.row (3 : Nat) (1 : Nat) n xs])]
 := by kernel_rfl

theorem bitsEnd (a v n : Nat) (xs : List SV) : (((xgo Try.prog X (bodyOf Try.f25) 28 CC [([0,1,0,1,1],5)] 50 [Dec.f] (Tree.nil) [.blk 1, .at [1,1,0,0,1,0,1,1], .rnd [0,0,1,0,1,1] 1, .blk 0, .at [1,1,1]] (stB a v 3 64 n xs) [] []).bind (ends Try.prog Try.f25.results.toList)).bind plainE) =
  some
  [EndP.mk [] [fun _ => false = false, fun _ => xs = List.map (fun x => SV.v x) (unv xs)]
      (Res.r (3 : Nat) (1 : Nat) n (unv xs))]
 := by kernel_rfl

theorem bits_exit {F : Mem → Prop} (hF : Mono F) {w0 : World} {fin : Exit → Act → World → Prop} (hfin : ∀ c (a : Act) (d : Option Tmp) (v : Value) (w : World), fin (.panic c) (a.put d v) w → fin (.panic c) a w)
    (a v n : Nat) (i : Int) (l : List Nat) (KT : List It) (next : Ok Try.prog (bodyOf Try.f25) 28 F w0 fin KT (stB a v i 64 n ((bl l).map SV.v))) :
    Ok Try.prog (bodyOf Try.f25) 28 F w0 fin (.at qB :: .rnd qB 1 :: .blk 2 :: KT) (stB a v i 64 n ((bl l).map SV.v)) := by
  refine xrun_sound hm hF hfin 8 _ _ _ _ (bitsExit a v n i _ KT) fun x hx => ?_
  rw [List.mem_singleton] at hx
  subst hx
  refine ⟨?_, Ok.weaken hF [0, 1] (stB a v i 64 n ((bl l).map SV.v)) ⟨rfl, rfl, rfl, rfl, rfl, trivial⟩ ⟨rfl, ?_, trivial⟩ rfl ⟨?_, ?_, ?_, trivial⟩ next⟩
  · simp only [hold_cons, hold_nil, and_true]
    exact fun _ _ => trivial
  · show some (HO.row 3 1 n ((bl l).map SV.v)) = some (HO.row 3 1 n (renL [0, 1] ((bl l).map SV.v)))
    rw [renL_mapv]
  · simp [stB, wsAllT, ws]
  · simp [HO.ws, ec, wsL, ws]
  · exact wsL_mapv _ _
theorem bits_inner {F : Mem → Prop} (hF : Mono F) {w0 : World} {fin : Exit → Act → World → Prop} (hfin : ∀ c (a : Act) (d : Option Tmp) (v : Value) (w : World), fin (.panic c) (a.put d v) w → fin (.panic c) a w)
    (a : Nat) (i : Int) (KT : List It) : ∀ (k v n j : Nat) (l : List Nat), j + k = 64 → v < 18446744073709551616 → n + k ≤ 1000 →
    Ok Try.prog (bodyOf Try.f25) 28 F w0 fin KT (stB a (v / 2 ^ k) i 64 (n + k) ((bl (l ++ nb v k)).map SV.v)) →
    Ok Try.prog (bodyOf Try.f25) 28 F w0 fin (.rnd qB (k + 2) :: .blk 2 :: KT) (stB a v i (j : Int) n ((bl l).map SV.v))
  | 0, v, n, j, l, hj, _, _, next => by
    have hj : j = 64 := by omega
    subst hj
    refine Ok.rnd (bits_exit hF hfin a v n i l KT ?_)
    simpa [nb] using next
  | k + 1, v, n, j, l, hj, hv, hn, next => by
    refine Ok.rnd (bits_round hF hfin a v n (k + 1) j i l (.blk 2 :: KT) (by omega) hv (by omega) ?_)
    refine bits_inner hF hfin a i KT k (v / 2) (n + 1) (j + 1) (l ++ [v % 2]) (by omega) (by omega) (by omega) ?_
    rw [List.append_assoc, List.singleton_append, Nat.div_div_eq_div_mul, ← Nat.pow_succ', show n + 1 + k = n + (k + 1) by omega]
    exact next
theorem bits_mid0 {F : Mem → Prop} (hF : Mono F) {w0 : World} {fin : Exit → Act → World → Prop} (hfin : ∀ c (a : Act) (d : Option Tmp) (v : Value) (w : World), fin (.panic c) (a.put d v) w → fin (.panic c) a w)
    (a v n : Nat) (l : List Nat) (hn : n + 64 ≤ 1000) (next : Ok Try.prog (bodyOf Try.f25) 28 F w0 fin [.blk 1, .at [1,1,0,0,1,0,1,1], .rnd [0,0,1,0,1,1] 3, .blk 0, .at [1,1,1]] (stB a (limb a 1 / 2 ^ 64) 1 64 (n + 64) ((bl (l ++ nb (limb a 1) 64)).map SV.v))) :
    Ok Try.prog (bodyOf Try.f25) 28 F w0 fin [.blk 1, .at [1,1,0,0,1,0,1,1], .rnd [0,0,1,0,1,1] 4, .blk 0, .at [1,1,1]] (stB a v 0 64 n ((bl l).map SV.v)) := by
  refine (xgo_sound hm hF hfin 50 _ _ _ _ [] [] _ (bitsMid0 a v n _) (paid_cons (fun _ => ⟨?_, ?_⟩) paid_nil) (fun a ha => by cases ha)).2
  · simp only [hold_cons, hold_nil, and_true]
    exact ⟨fun _ _ => trivial, fun _ _ => ⟨by omega, by omega⟩⟩
  · refine Ok.weaken hF [0, 1] (stB a (limb a 1) 1 0 n ((bl l).map SV.v)) ⟨rfl, rfl, rfl, rfl, rfl, trivial⟩ ⟨rfl, ?_, trivial⟩ rfl ⟨?_, ?_, ?_, trivial⟩ ?_
    · show some (HO.row 3 1 n ((bl l).map SV.v)) = some (HO.row 3 1 n (renL [0, 1] ((bl l).map SV.v)))
      rw [renL_mapv]
    · simp [stB, wsAllT, ws]
    · simp [HO.ws, ec, wsL, ws]
    · exact wsL_mapv _ _
    · exact Ok.loop 66 (by kernel_rfl) (bits_inner hF hfin a 1 _ 64 (limb a 1) n 0 l rfl (limb_lt a 1) hn next)
theorem bits_mid1 {F : Mem → Prop} (hF : Mono F) {w0 : World} {fin : Exit → Act → World → Prop} (hfin : ∀ c (a : Act) (d : Option Tmp) (v : Value) (w : World), fin (.panic c) (a.put d v) w → fin (.panic c) a w)
    (a v n : Nat) (l : List Nat) (hn : n + 64 ≤ 1000) (next : Ok Try.prog (bodyOf Try.f25) 28 F w0 fin [.blk 1, .at [1,1,0,0,1,0,1,1], .rnd [0,0,1,0,1,1] 2, .blk 0, .at [1,1,1]] (stB a (limb a 2 / 2 ^ 64) 2 64 (n + 64) ((bl (l ++ nb (limb a 2) 64)).map SV.v))) :
    Ok Try.prog (bodyOf Try.f25) 28 F w0 fin [.blk 1, .at [1,1,0,0,1,0,1,1], .rnd [0,0,1,0,1,1] 3, .blk 0, .at [1,1,1]] (stB a v 1 64 n ((bl l).map SV.v)) := by
  refine (xgo_sound hm hF hfin 50 _ _ _ _ [] [] _ (bitsMid1 a v n _) (paid_cons (fun _ => ⟨?_, ?_⟩) paid_nil) (fun a ha => by cases ha)).2
  · simp only [hold_cons, hold_nil, and_true]
    exact ⟨fun _ _ => trivial, fun _ _ => ⟨by omega, by omega⟩⟩
  · refine Ok.weaken hF [0, 1] (stB a (limb a 2) 2 0 n ((bl l).map SV.v)) ⟨rfl, rfl, rfl, rfl, rfl, trivial⟩ ⟨rfl, ?_, trivial⟩ rfl ⟨?_, ?_, ?_, trivial⟩ ?_
    · show some (HO.row 3 1 n ((bl l).map SV.v)) = some (HO.row 3 1 n (renL [0, 1] ((bl l).map SV.v)))
      rw [renL_mapv]
    · simp [stB, wsAllT, ws]
    · simp [HO.ws, ec, wsL, ws]
    · exact wsL_mapv _ _
    · exact Ok.loop 66 (by kernel_rfl) (bits_inner hF hfin a 2 _ 64 (limb a 2) n 0 l rfl (limb_lt a 2) hn next)
theorem bits_mid2 {F : Mem → Prop} (hF : Mono F) {w0 : World} {fin : Exit → Act → World → Prop} (hfin : ∀ c (a : Act) (d : Option Tmp) (v : Value) (w : World), fin (.panic c) (a.put d v) w → fin (.panic c) a w)
    (a v n : Nat) (l : List Nat) (hn : n + 64 ≤ 1000) (next : Ok Try.prog (bodyOf Try.f25) 28 F w0 fin [.blk 1, .at [1,1,0,0,1,0,1,1], .rnd [0,0,1,0,1,1] 1, .blk 0, .at [1,1,1]] (stB a (limb a 3 / 2 ^ 64) 3 64 (n + 64) ((bl (l ++ nb (limb a 3) 64)).map SV.v))) :
    Ok Try.prog (bodyOf Try.f25) 28 F w0 fin [.blk 1, .at [1,1,0,0,1,0,1,1], .rnd [0,0,1,0,1,1] 2, .blk 0, .at [1,1,1]] (stB a v 2 64 n ((bl l).map SV.v)) := by
  refine (xgo_sound hm hF hfin 50 _ _ _ _ [] [] _ (bitsMid2 a v n _) (paid_cons (fun _ => ⟨?_, ?_⟩) paid_nil) (fun a ha => by cases ha)).2
  · simp only [hold_cons, hold_nil, and_true]
    exact ⟨fun _ _ => trivial, fun _ _ => ⟨by omega, by omega⟩⟩
  · refine Ok.weaken hF [0, 1] (stB a (limb a 3) 3 0 n ((bl l).map SV.v)) ⟨rfl, rfl, rfl, rfl, rfl, trivial⟩ ⟨rfl, ?_, trivial⟩ rfl ⟨?_, ?_, ?_, trivial⟩ ?_
    · show some (HO.row 3 1 n ((bl l).map SV.v)) = some (HO.row 3 1 n (renL [0, 1] ((bl l).map SV.v)))
      rw [renL_mapv]
    · simp [stB, wsAllT, ws]
    · simp [HO.ws, ec, wsL, ws]
    · exact wsL_mapv _ _
    · exact Ok.loop 66 (by kernel_rfl) (bits_inner hF hfin a 3 _ 64 (limb a 3) n 0 l rfl (limb_lt a 3) hn next)
theorem nb_words (a : Nat) : nb (limb a 0) 64 ++ nb (limb a 1) 64 ++ nb (limb a 2) 64 ++ nb (limb a 3) 64 = nb a 256 := by
  simp only [limb_eq, nb_mod _ 64 64 (Nat.le_refl 64)]
  rw [show (256 : Nat) = 64 + 64 + 64 + 64 from rfl, nb_add, nb_add, nb_add]
  simp
theorem bits_ok (a : Nat) (w : World) : Calls Try.prog 25 [el a].toArray w (fun E w' => ∃ v, E = .returned v ∧ Res.ok w w' (.r 3 1 256 (bl (nb a 256))) v ∧ Below w.heap.size w w') := by
  refine con_end (calls_of_ok (B := bodyOf Try.f25) (n := 28) Try.func25 (by kernel_rfl) rfl rfl (F := F0 w) (fun _ _ h => h) ?_)
  have hF := F0.mono w
  refine (xgo_sound hm hF finB 50 _ _ _ _ [] [] _ (bitsStart a) (paid_cons (fun _ => ⟨?_, ?_⟩) paid_nil) (fun a ha => by cases ha)).2
  · simp only [hold_cons, hold_nil, and_true]
    exact ⟨fun _ _ => trivial, fun _ _ => ⟨by omega, by omega⟩⟩
  · refine Ok.weaken hF [0, 1] (stB a (limb a 0) 0 0 0 ((bl []).map SV.v)) ⟨rfl, rfl, rfl, rfl, rfl, trivial⟩ ⟨rfl, rfl, trivial⟩ rfl ⟨?_, ?_, ?_, trivial⟩ ?_
    · simp [stB, wsAllT, ws]
    · simp [HO.ws, ec, wsL, ws]
    · exact wsL_mapv _ _
    · refine Ok.loop 66 (by kernel_rfl) (bits_inner hF finB a 0 _ 64 (limb a 0) 0 0 [] rfl (limb_lt a 0) (by omega) ?_)
      refine bits_mid0 hF finB a _ _ _ (by omega) (bits_mid1 hF finB a _ _ _ (by omega) (bits_mid2 hF finB a _ _ _ (by omega) ?_))
      rw [List.nil_append, nb_words]
      refine ok_plain hm hF (fun _ h => h) 50 _ _ _ _ (bitsEnd a _ _ _) ⟨fun _ => ⟨?_, ?_⟩, trivial⟩
      · simp only [hold_cons, hold_nil, and_true, unv_mapv]
        exact ⟨fun _ _ => trivial, fun _ _ => trivial⟩
      · rw [unv_mapv]
end Go.Proofs.Ytcipmpamhffclaa
