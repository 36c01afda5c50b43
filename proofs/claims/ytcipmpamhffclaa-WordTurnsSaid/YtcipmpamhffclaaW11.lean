/- Remainders: the whole. -/
import Derived.Test.YtcipmpamhffclaaW10
namespace Go.Proofs.Ytcipmpamhffclaa
open Go.Sx Go.Pl Go.RowKit
theorem remStart (a b m : Nat) : (xgo Try.prog X (bodyOf Try.f20) 57 CA [([0,1,0,1,1,1],3)] 50 [] (Tree.br [] Tree.nil [Dec.t] Tree.nil) [.at []] ⟨argsTm 0 [el a, el b, el m], []⟩ [] []) =
  some
  [Leaf2.mk
      [decide
            ([(↑(limb m (0 : Nat)) : Int), (↑(limb m (1 : Nat)) : Int), (↑(limb m (2 : Nat)) : Int),
                (↑(limb m (3 : Nat)) : Int)] =
              [(0 : Int), (0 : Int), (0 : Int), (0 : Int)]) =
          true]
      [fun _ =>
        decide
            ([(↑(limb m (0 : Nat)) : Int), (↑(limb m (1 : Nat)) : Int), (↑(limb m (2 : Nat)) : Int),
                (↑(limb m (3 : Nat)) : Int)] =
              [(0 : Int), (0 : Int), (0 : Int), (0 : Int)]) =
          true,
        fun _ => (4 : Nat) ≤ (4 : Nat)]
      [It.ret, It.at [(1 : Nat), (1 : Nat)]]
      (St.mk
        [((7 : Nat), SV.v (Value.int IntKind.i64 (10 : Int))),
          ((18 : Nat),
            SV.agg
              [SV.v (Value.int IntKind.u64 (0 : Int)), SV.v (Value.int IntKind.u64 (0 : Int)),
                SV.v (Value.int IntKind.u64 (0 : Int)), SV.v (Value.int IntKind.u64 (0 : Int))]),
          ((17 : Nat),
            SV.v
              (Value.bool
                (decide
                  ([(↑(limb m (0 : Nat)) : Int), (↑(limb m (1 : Nat)) : Int), (↑(limb m (2 : Nat)) : Int),
                      (↑(limb m (3 : Nat)) : Int)] =
                    [(0 : Int), (0 : Int), (0 : Int), (0 : Int)])))),
          ((16 : Nat),
            SV.agg
              [SV.v (Value.int IntKind.u64 (0 : Int)), SV.v (Value.int IntKind.u64 (0 : Int)),
                SV.v (Value.int IntKind.u64 (0 : Int)), SV.v (Value.int IntKind.u64 (0 : Int))]),
          ((15 : Nat),
            SV.agg
              [SV.v (Value.int IntKind.u64 (↑(limb m (0 : Nat)) : Int)),
                SV.v (Value.int IntKind.u64 (↑(limb m (1 : Nat)) : Int)),
                SV.v (Value.int IntKind.u64 (↑(limb m (2 : Nat)) : Int)),
                SV.v (Value.int IntKind.u64 (↑(limb m (3 : Nat)) : Int))]),
          ((6 : Nat), SV.p (3 : Nat) (0 : Nat)), ((5 : Nat), SV.p (2 : Nat) (0 : Nat)),
          ((4 : Nat), SV.p (1 : Nat) (0 : Nat)), ((3 : Nat), SV.p (0 : Nat) (0 : Nat)), ((0 : Nat), SV.v (el a)),
          ((1 : Nat), SV.v (el b)), ((2 : Nat), SV.v (el m))]
        [HO.cells
            [SV.v (Value.int IntKind.u64 (↑(limb a (0 : Nat)) : Int)),
              SV.v (Value.int IntKind.u64 (↑(limb a (1 : Nat)) : Int)),
              SV.v (Value.int IntKind.u64 (↑(limb a (2 : Nat)) : Int)),
              SV.v (Value.int IntKind.u64 (↑(limb a (3 : Nat)) : Int))]
            (24 : Nat),
          HO.cells
            [SV.v (Value.int IntKind.u64 (↑(limb b (0 : Nat)) : Int)),
              SV.v (Value.int IntKind.u64 (↑(limb b (1 : Nat)) : Int)),
              SV.v (Value.int IntKind.u64 (↑(limb b (2 : Nat)) : Int)),
              SV.v (Value.int IntKind.u64 (↑(limb b (3 : Nat)) : Int))]
            (24 : Nat),
          HO.cells
            [SV.v (Value.int IntKind.u64 (↑(limb m (0 : Nat)) : Int)),
              SV.v (Value.int IntKind.u64 (↑(limb m (1 : Nat)) : Int)),
              SV.v (Value.int IntKind.u64 (↑(limb m (2 : Nat)) : Int)),
              SV.v (Value.int IntKind.u64 (↑(limb m (3 : Nat)) : Int))]
            (24 : Nat),
          HO.cells
            [SV.v (Value.int IntKind.u64 (0 : Int)), SV.v (Value.int IntKind.u64 (0 : Int)),
              SV.v (Value.int IntKind.u64 (0 : Int)), SV.v (Value.int IntKind.u64 (0 : Int))]
            (24 : Nat)]),
    Leaf2.mk
      [decide
            ([(↑(limb m (0 : Nat)) : Int), (↑(limb m (1 : Nat)) : Int), (↑(limb m (2 : Nat)) : Int),
                (↑(limb m (3 : Nat)) : Int)] =
              [(0 : Int), (0 : Int), (0 : Int), (0 : Int)]) =
          false]
      [fun _ =>
        decide
            ([(↑(limb m (0 : Nat)) : Int), (↑(limb m (1 : Nat)) : Int), (↑(limb m (2 : Nat)) : Int),
                (↑(limb m (3 : Nat)) : Int)] =
              [(0 : Int), (0 : Int), (0 : Int), (0 : Int)]) =
          false,
        fun _ => true = true, fun _ => (0 : Int) ≤ (0 : Int) ∧ (0 : Int) < (2 : Int), fun _ =>
        (0 : Nat) + (4 : Nat) ≤ (4 : Nat)]
      [It.at
          [(0 : Nat), (1 : Nat), (1 : Nat), (0 : Nat), (0 : Nat), (1 : Nat), (1 : Nat), (0 : Nat), (0 : Nat), (1 : Nat),
            (0 : Nat), (1 : Nat), (1 : Nat), (1 : Nat)],
        It.blk (2 : Nat), It.blk (1 : Nat),
        It.at
          [(1 : Nat), (1 : Nat), (1 : Nat), (0 : Nat), (0 : Nat), (1 : Nat), (0 : Nat), (1 : Nat), (1 : Nat),
            (1 : Nat)],
        It.rnd [(0 : Nat), (0 : Nat), (1 : Nat), (0 : Nat), (1 : Nat), (1 : Nat), (1 : Nat)] (2 : Nat),
        It.blk (0 : Nat), It.at [(1 : Nat), (1 : Nat), (1 : Nat), (1 : Nat)]]
      (St.mk
        [((11 : Nat), SV.v (Value.int IntKind.i64 (255 : Int))), ((10 : Nat), SV.p (5 : Nat) (0 : Nat)),
          ((24 : Nat),
            SV.agg
              [SV.v (Value.int IntKind.u64 (↑(limb b (0 : Nat)) : Int)),
                SV.v (Value.int IntKind.u64 (↑(limb b (1 : Nat)) : Int)),
                SV.v (Value.int IntKind.u64 (↑(limb b (2 : Nat)) : Int)),
                SV.v (Value.int IntKind.u64 (↑(limb b (3 : Nat)) : Int))]),
          ((23 : Nat), SV.v (Value.bool true)), ((22 : Nat), SV.v (Value.int IntKind.i64 (0 : Int))),
          ((21 : Nat),
            SV.agg
              [SV.v (Value.int IntKind.u64 (↑(limb b (0 : Nat)) : Int)),
                SV.v (Value.int IntKind.u64 (↑(limb b (1 : Nat)) : Int)),
                SV.v (Value.int IntKind.u64 (↑(limb b (2 : Nat)) : Int)),
                SV.v (Value.int IntKind.u64 (↑(limb b (3 : Nat)) : Int)),
                SV.v (Value.int IntKind.u64 (↑(limb a (0 : Nat)) : Int)),
                SV.v (Value.int IntKind.u64 (↑(limb a (1 : Nat)) : Int)),
                SV.v (Value.int IntKind.u64 (↑(limb a (2 : Nat)) : Int)),
                SV.v (Value.int IntKind.u64 (↑(limb a (3 : Nat)) : Int))]),
          ((20 : Nat),
            SV.agg
              [SV.v (Value.int IntKind.u64 (↑(limb a (0 : Nat)) : Int)),
                SV.v (Value.int IntKind.u64 (↑(limb a (1 : Nat)) : Int)),
                SV.v (Value.int IntKind.u64 (↑(limb a (2 : Nat)) : Int)),
                SV.v (Value.int IntKind.u64 (↑(limb a (3 : Nat)) : Int))]),
          ((19 : Nat),
            SV.agg
              [SV.v (Value.int IntKind.u64 (↑(limb b (0 : Nat)) : Int)),
                SV.v (Value.int IntKind.u64 (↑(limb b (1 : Nat)) : Int)),
                SV.v (Value.int IntKind.u64 (↑(limb b (2 : Nat)) : Int)),
                SV.v (Value.int IntKind.u64 (↑(limb b (3 : Nat)) : Int))]),
          ((8 : Nat), SV.p (4 : Nat) (0 : Nat)),
          ((17 : Nat),
            SV.v
              (Value.bool
                (decide
                  ([(↑(limb m (0 : Nat)) : Int), (↑(limb m (1 : Nat)) : Int), (↑(limb m (2 : Nat)) : Int),
                      (↑(limb m (3 : Nat)) : Int)] =
                    [(0 : Int), (0 : Int), (0 : Int), (0 : Int)])))),
          ((16 : Nat),
            SV.agg
              [SV.v (Value.int IntKind.u64 (0 : Int)), SV.v (Value.int IntKind.u64 (0 : Int)),
                SV.v (Value.int IntKind.u64 (0 : Int)), SV.v (Value.int IntKind.u64 (0 : Int))]),
          ((15 : Nat),
            SV.agg
              [SV.v (Value.int IntKind.u64 (↑(limb m (0 : Nat)) : Int)),
                SV.v (Value.int IntKind.u64 (↑(limb m (1 : Nat)) : Int)),
                SV.v (Value.int IntKind.u64 (↑(limb m (2 : Nat)) : Int)),
                SV.v (Value.int IntKind.u64 (↑(limb m (3 : Nat)) : Int))]),
          ((7 : Nat), SV.v (Value.int IntKind.i64 (0 : Int))), ((6 : Nat), SV.p (3 : Nat) (0 : Nat)),
          ((5 : Nat), SV.p (2 : Nat) (0 : Nat)), ((4 : Nat), SV.p (1 : Nat) (0 : Nat)),
          ((3 : Nat), SV.p (0 : Nat) (0 : Nat)), ((0 : Nat), SV.v (el a)), ((1 : Nat), SV.v (el b)),
          ((2 : Nat), SV.v (el m))]
        [HO.cells
            [SV.v (Value.int IntKind.u64 (↑(limb a (0 : Nat)) : Int)),
              SV.v (Value.int IntKind.u64 (↑(limb a (1 : Nat)) : Int)),
              SV.v (Value.int IntKind.u64 (↑(limb a (2 : Nat)) : Int)),
              SV.v (Value.int IntKind.u64 (↑(limb a (3 : Nat)) : Int))]
            (24 : Nat),
          HO.cells
            [SV.v (Value.int IntKind.u64 (↑(limb b (0 : Nat)) : Int)),
              SV.v (Value.int IntKind.u64 (↑(limb b (1 : Nat)) : Int)),
              SV.v (Value.int IntKind.u64 (↑(limb b (2 : Nat)) : Int)),
              SV.v (Value.int IntKind.u64 (↑(limb b (3 : Nat)) : Int))]
            (24 : Nat),
          HO.cells
            [SV.v (Value.int IntKind.u64 (↑(limb m (0 : Nat)) : Int)),
              SV.v (Value.int IntKind.u64 (↑(limb m (1 : Nat)) : Int)),
              SV.v (Value.int IntKind.u64 (↑(limb m (2 : Nat)) : Int)),
              SV.v (Value.int IntKind.u64 (↑(limb m (3 : Nat)) : Int))]
            (24 : Nat),
          HO.cells
            [SV.v (Value.int IntKind.u64 (0 : Int)), SV.v (Value.int IntKind.u64 (0 : Int)),
              SV.v (Value.int IntKind.u64 (0 : Int)), SV.v (Value.int IntKind.u64 (0 : Int))]
            (24 : Nat),
          HO.cells
            [SV.v (Value.int IntKind.u64 (0 : Int)), SV.v (Value.int IntKind.u64 (0 : Int)),
              SV.v (Value.int IntKind.u64 (0 : Int)), SV.v (Value.int IntKind.u64 (0 : Int))]
            (24 : Nat),
          HO.cells
            [SV.v (Value.int IntKind.u64 (↑(limb b (0 : Nat)) : Int)),
              SV.v (Value.int IntKind.u64 (↑(limb b (1 : Nat)) : Int)),
              SV.v (Value.int IntKind.u64 (↑(limb b (2 : Nat)) : Int)),
              SV.v (Value.int IntKind.u64 (↑(limb b (3 : Nat)) : Int))]
            (24 : Nat)])]
 := by kernel_rfl

theorem remMid (a b m r : Nat) : (xgo Try.prog X (bodyOf Try.f20) 57 CA [([0,1,0,1,1,1],3)] 50 [Dec.t] (Tree.nil) [.blk 1, .at [1,1,1,0,0,1,0,1,1,1], .rnd [0,0,1,0,1,1,1] 2, .blk 0, .at [1,1,1,1]] (stI a b m b r 0 (-1)) [] []) =
  some
  [Leaf2.mk []
      [fun _ => true = true, fun _ => (0 : Int) ≤ (1 : Int) ∧ (1 : Int) < (2 : Int), fun _ =>
        (0 : Nat) + (4 : Nat) ≤ (4 : Nat)]
      [It.at
          [(0 : Nat), (1 : Nat), (1 : Nat), (0 : Nat), (0 : Nat), (1 : Nat), (1 : Nat), (0 : Nat), (0 : Nat), (1 : Nat),
            (0 : Nat), (1 : Nat), (1 : Nat), (1 : Nat)],
        It.blk (2 : Nat), It.blk (1 : Nat),
        It.at
          [(1 : Nat), (1 : Nat), (1 : Nat), (0 : Nat), (0 : Nat), (1 : Nat), (0 : Nat), (1 : Nat), (1 : Nat),
            (1 : Nat)],
        It.rnd [(0 : Nat), (0 : Nat), (1 : Nat), (0 : Nat), (1 : Nat), (1 : Nat), (1 : Nat)] (1 : Nat),
        It.blk (0 : Nat), It.at [(1 : Nat), (1 : Nat), (1 : Nat), (1 : Nat)]]
      (St.mk
        [((11 : Nat), SV.v (Value.int IntKind.i64 (255 : Int))), ((10 : Nat), SV.p (6 : Nat) (0 : Nat)),
          ((24 : Nat),
            SV.agg
              [SV.v (Value.int IntKind.u64 (↑(limb a (0 : Nat)) : Int)),
                SV.v (Value.int IntKind.u64 (↑(limb a (1 : Nat)) : Int)),
                SV.v (Value.int IntKind.u64 (↑(limb a (2 : Nat)) : Int)),
                SV.v (Value.int IntKind.u64 (↑(limb a (3 : Nat)) : Int))]),
          ((23 : Nat), SV.v (Value.bool true)), ((22 : Nat), SV.v (Value.int IntKind.i64 (1 : Int))),
          ((55 : Nat), SV.v (Value.int IntKind.i64 (1 : Int))), ((8 : Nat), SV.p (4 : Nat) (0 : Nat)),
          ((6 : Nat), SV.p (3 : Nat) (0 : Nat)), ((7 : Nat), SV.v (Value.int IntKind.i64 (0 : Int))),
          ((5 : Nat), SV.p (2 : Nat) (0 : Nat)),
          ((21 : Nat),
            SV.agg
              [SV.v (Value.int IntKind.u64 (↑(limb b (0 : Nat)) : Int)),
                SV.v (Value.int IntKind.u64 (↑(limb b (1 : Nat)) : Int)),
                SV.v (Value.int IntKind.u64 (↑(limb b (2 : Nat)) : Int)),
                SV.v (Value.int IntKind.u64 (↑(limb b (3 : Nat)) : Int)),
                SV.v (Value.int IntKind.u64 (↑(limb a (0 : Nat)) : Int)),
                SV.v (Value.int IntKind.u64 (↑(limb a (1 : Nat)) : Int)),
                SV.v (Value.int IntKind.u64 (↑(limb a (2 : Nat)) : Int)),
                SV.v (Value.int IntKind.u64 (↑(limb a (3 : Nat)) : Int))])]
        [HO.cells
            [SV.v (Value.int IntKind.u64 (↑(limb a (0 : Nat)) : Int)),
              SV.v (Value.int IntKind.u64 (↑(limb a (1 : Nat)) : Int)),
              SV.v (Value.int IntKind.u64 (↑(limb a (2 : Nat)) : Int)),
              SV.v (Value.int IntKind.u64 (↑(limb a (3 : Nat)) : Int))]
            (24 : Nat),
          HO.cells
            [SV.v (Value.int IntKind.u64 (↑(limb b (0 : Nat)) : Int)),
              SV.v (Value.int IntKind.u64 (↑(limb b (1 : Nat)) : Int)),
              SV.v (Value.int IntKind.u64 (↑(limb b (2 : Nat)) : Int)),
              SV.v (Value.int IntKind.u64 (↑(limb b (3 : Nat)) : Int))]
            (24 : Nat),
          HO.cells
            [SV.v (Value.int IntKind.u64 (↑(limb m (0 : Nat)) : Int)),
              SV.v (Value.int IntKind.u64 (↑(limb m (1 : Nat)) : Int)),
              SV.v (Value.int IntKind.u64 (↑(limb m (2 : Nat)) : Int)),
              SV.v (Value.int IntKind.u64 (↑(limb m (3 : Nat)) : Int))]
            (24 : Nat),
          HO.cells
            [SV.v (Value.int IntKind.u64 (↑(limb (0 : Nat) (0 : Nat)) : Int)),
              SV.v (Value.int IntKind.u64 (↑(limb (0 : Nat) (1 : Nat)) : Int)),
              SV.v (Value.int IntKind.u64 (↑(limb (0 : Nat) (2 : Nat)) : Int)),
              SV.v (Value.int IntKind.u64 (↑(limb (0 : Nat) (3 : Nat)) : Int))]
            (24 : Nat),
          HO.cells
            [SV.v (Value.int IntKind.u64 (↑(limb r (0 : Nat)) : Int)),
              SV.v (Value.int IntKind.u64 (↑(limb r (1 : Nat)) : Int)),
              SV.v (Value.int IntKind.u64 (↑(limb r (2 : Nat)) : Int)),
              SV.v (Value.int IntKind.u64 (↑(limb r (3 : Nat)) : Int))]
            (24 : Nat),
          HO.cells
            [SV.v (Value.int IntKind.u64 (↑(limb b (0 : Nat)) : Int)),
              SV.v (Value.int IntKind.u64 (↑(limb b (1 : Nat)) : Int)),
              SV.v (Value.int IntKind.u64 (↑(limb b (2 : Nat)) : Int)),
              SV.v (Value.int IntKind.u64 (↑(limb b (3 : Nat)) : Int))]
            (24 : Nat),
          HO.cells
            [SV.v (Value.int IntKind.u64 (↑(limb a (0 : Nat)) : Int)),
              SV.v (Value.int IntKind.u64 (↑(limb a (1 : Nat)) : Int)),
              SV.v (Value.int IntKind.u64 (↑(limb a (2 : Nat)) : Int)),
              SV.v (Value.int IntKind.u64 (↑(limb a (3 : Nat)) : Int))]
            (24 : Nat)])]
 := by kernel_rfl

theorem remEnd (a b m r : Nat) : (((xgo Try.prog X (bodyOf Try.f20) 57 CA [([0,1,0,1,1,1],3)] 50 [Dec.f] (Tree.nil) [.blk 1, .at [1,1,1,0,0,1,0,1,1,1], .rnd [0,0,1,0,1,1,1] 1, .blk 0, .at [1,1,1,1]] (stI a b m a r 1 (-1)) [] []).bind (ends Try.prog Try.f20.results.toList)).bind plainE) =
  some
  [EndP.mk [] [fun _ => false = false, fun _ => (0 : Nat) + (4 : Nat) ≤ (4 : Nat)]
      (Res.v
        (Value.tuple
          (Array.mk
            [Value.agg
                (Array.mk
                  [Value.int IntKind.u64 (↑(limb r (0 : Nat)) : Int), Value.int IntKind.u64 (↑(limb r (1 : Nat)) : Int),
                    Value.int IntKind.u64 (↑(limb r (2 : Nat)) : Int),
                    Value.int IntKind.u64 (↑(limb r (3 : Nat)) : Int)]),
              Value.int IntKind.i64 (0 : Int)])))]
 := by kernel_rfl

theorem limb_zero (k : Nat) : limb 0 k = 0 := by rw [limb, hide_eq]; simp
theorem ec_zero : ec 0 = [.v (.int .u64 0), .v (.int .u64 0), .v (.int .u64 0), .v (.int .u64 0)] := by
  simp only [ec, limb_zero]; rfl
theorem el_zero : el 0 = .agg #[.int .u64 0, .int .u64 0, .int .u64 0, .int .u64 0] := by
  simp only [el, limb_zero]; rfl
theorem zero_of_limbs {m : Nat} (hm : m < top) (h : [((limb m 0 : Nat) : Int), ((limb m 1 : Nat) : Int), ((limb m 2 : Nat) : Int), ((limb m 3 : Nat) : Int)] = [(0 : Int), 0, 0, 0]) : m = 0 := by
  simp only [List.cons.injEq, and_true] at h
  refine eq_of_limbs hm top_pos ?_ ?_ ?_ ?_ <;> rw [limb_zero] <;> omega
noncomputable def remV (lo hi m : Nat) : Value := bif Nat.beq m 0 then .tuple #[el 0, .int .i64 10] else .tuple #[el ((hi * top + lo) % m), .int .i64 0]
theorem pow_top : (2 : Nat) ^ 256 = top := by decide +kernel
theorem two_halves (lo hi m : Nat) (hlo : lo < top) (hhi : hi < top) : (((0 * 2 ^ 256 + hi % 2 ^ 256) % m) * 2 ^ 256 + lo % 2 ^ 256) % m = (hi * top + lo) % m := by
  rw [pow_top, Nat.mod_eq_of_lt hlo, Nat.mod_eq_of_lt hhi, Nat.zero_mul, Nat.zero_add, Nat.add_mod, Nat.mod_mul_mod, ← Nat.add_mod]
theorem ok_mono {B : Code} {n : Nat} {F : Mem → Prop} {w0 : World} {fin : Exit → Act → World → Prop} {k : List It} {st st' : St} (h : st = st') (hk : Ok Try.prog B n F w0 fin k st) : Ok Try.prog B n F w0 fin k st' := h ▸ hk
theorem rem_second (lo hi m r1 : Nat) (w : World) (hmt : m < top) (hmp : 0 < m) (hr1 : r1 < m) (hres : (r1 * 2 ^ 256 + lo % 2 ^ 256) % m = (hi * top + lo) % m) :
    Ok Try.prog (bodyOf Try.f20) 57 (F0 w) w (bodyPost Try.prog Try.f20 fun E w' => ∃ v r, E = .returned v ∧ r = Res.v (remV lo hi m) ∧ r.ok w w' v ∧ Below w.heap.size w w')
      [.blk 1, .at [1,1,1,0,0,1,0,1,1,1], .rnd [0,0,1,0,1,1,1] 2, .blk 0, .at [1,1,1,1]] (stI lo hi m hi r1 0 (-1)) := by
  have hF := F0.mono w
  refine (xgo_sound hm hF finB 50 _ _ _ _ [] [] _ (remMid lo hi m r1) (paid_cons (fun _ => ⟨?_, ?_⟩) paid_nil) (fun a ha => by cases ha)).2
  · simp only [hold_cons, hold_nil, and_true]
    exact ⟨fun _ _ => trivial, fun _ _ => ⟨by omega, by omega⟩, fun _ _ => Nat.le_refl 4⟩
  · refine Ok.weaken hF [0,1,2,3,4,6] (stI lo hi m lo r1 1 255) ?_ ?_ rfl (by
      simp [stI, wsAllT, wsAllH, ws, wsL, HO.ws, ec]) ?_
    · exact ⟨rfl, rfl, rfl, rfl, rfl, rfl, rfl, rfl, trivial⟩
    · exact ⟨rfl, rfl, rfl, rfl, rfl, rfl, trivial⟩
    · refine Ok.loop 258 (by kernel_rfl) ?_
      refine rem_inner hF finB lo hi m lo 1 _ hmt 256 r1 (by omega) hr1 ?_
      rw [hres]
      refine ok_plain hm hF (fun _ h => h) 50 _ _ _ _ (remEnd lo hi m _) ⟨fun _ => ⟨?_, ?_⟩, trivial⟩
      · simp only [hold_cons, hold_nil, and_true]
        repeat' apply And.intro
        all_goals (intro _ _; first | trivial | omega)
      · have hb : Nat.beq m 0 = false := by
          cases m with
          | zero => omega
          | succ k => rfl
        simp only [remV, hb, cond_false]
        rfl
theorem rem_ok (lo hi m : Nat) (hlo : lo < top) (hhi : hi < top) (hmt : m < top) (w : World) : Calls Try.prog 20 [el lo, el hi, el m].toArray w (fun E w' => ∃ v, E = .returned v ∧ Res.ok w w' (.v (remV lo hi m)) v ∧ Below w.heap.size w w') := by
  refine con_end (calls_of_ok (B := bodyOf Try.f20) (n := 57) Try.func20 (by kernel_rfl) rfl rfl (F := F0 w) (fun _ _ h => h) ?_)
  have hF := F0.mono w
  refine (xgo_sound hm hF finB 50 _ _ _ _ [] [] _ (remStart lo hi m) (paid_cons (fun has => ⟨?_, ?_⟩) (paid_cons (fun has => ⟨?_, ?_⟩) paid_nil)) (fun a ha => by cases ha)).2
  · have h0 := has _ List.mem_cons_self
    simp only [hold_cons, hold_nil, and_true]
    exact ⟨fun _ _ => h0, fun _ _ => Nat.le_refl 4⟩
  · have h0 := has _ List.mem_cons_self
    have hz : m = 0 := zero_of_limbs hmt (by simpa only [decide_eq_true_eq] using h0)
    subst hz
    refine Ok.ret (.tup [.agg [.v (.int .u64 0), .v (.int .u64 0), .v (.int .u64 0), .v (.int .u64 0)], .v (.int .i64 10)]) rfl fun e w' S => ⟨_, _, rfl, rfl, ?_, below_of (fun _ h => h) S⟩
    show _ = remV lo hi 0
    simp only [remV, show Nat.beq 0 0 = true from rfl, cond_true, el_zero]
    rfl
  · have h0 := has _ List.mem_cons_self
    simp only [hold_cons, hold_nil, and_true]
    exact ⟨fun _ _ => h0, fun _ _ => trivial, fun _ _ => ⟨by omega, by omega⟩, fun _ _ => Nat.le_refl 4⟩
  · have h0 := has _ List.mem_cons_self
    have hz : m ≠ 0 := by
      intro hz
      subst hz
      simp only [limb_zero, decide_eq_false_iff_not] at h0
      exact h0 rfl
    have hmp : 0 < m := Nat.pos_of_ne_zero hz
    refine Ok.weaken hF [0,1,2,3,4,5] (stI lo hi m hi 0 0 255) ?_ ?_ rfl (by
      simp [stI, wsAllT, wsAllH, ws, wsL, HO.ws, ec]) ?_
    · exact ⟨rfl, rfl, rfl, rfl, rfl, rfl, rfl, rfl, trivial⟩
    · refine ⟨rfl, rfl, rfl, ?_, ?_, rfl, trivial⟩
      · rw [ec_zero]; rfl
      · rw [ec_zero]; rfl
    · refine Ok.loop 258 (by kernel_rfl) ?_
      refine rem_inner hF finB lo hi m hi 0 _ hmt 256 0 (by omega) hmp ?_
      exact rem_second lo hi m _ w hmt hmp (Nat.mod_lt _ hmp) (two_halves lo hi m hlo hhi)
end Go.Proofs.Ytcipmpamhffclaa
