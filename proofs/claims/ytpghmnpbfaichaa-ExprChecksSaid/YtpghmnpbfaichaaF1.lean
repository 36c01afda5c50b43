/- Sums and differences of words: what the program's functions answer. -/
import Derived.Test.YtpghmnpbfaichaaE19
namespace Go.Proofs.Ytpghmnpbfaichaa
open Go.Sx Go.Pl Go.RowKit
theorem wadd (a b : Nat) : (((xgo Try.prog X (bodyOf Try.f90) 29 C0 [([0, 1, 0, 1, 1, 1],5)] 50 [Dec.t, Dec.t, Dec.t, Dec.t, Dec.f] Tree.nil [.at []] ⟨argsTm 0 [el a, el b], []⟩ [] []).bind (ends Try.prog Try.f90.results.toList)).bind plainE) =
  some
  [EndP.mk []
      [fun _ => true = true, fun _ => (0 : Int) ≤ (0 : Int) ∧ (0 : Int) < (4 : Int), fun _ =>
        (0 : Int) ≤ (0 : Int) ∧ (0 : Int) < (4 : Int), fun _ =>
        (0 : Int) ≤ (↑(limb a (0 : Nat)) : Int) ∧
          (0 : Int) ≤ (↑(limb b (0 : Nat)) : Int) ∧ (0 : Int) ≤ (0 : Int) ∧ (0 : Nat) ≤ (1 : Nat),
        fun _ => (0 : Int) ≤ (0 : Int) ∧ (0 : Int) < (4 : Int), fun _ => (1 : Nat) ≤ (4 : Nat), fun _ => true = true,
        fun _ => (0 : Int) ≤ (1 : Int) ∧ (1 : Int) < (4 : Int), fun _ => (0 : Int) ≤ (1 : Int) ∧ (1 : Int) < (4 : Int),
        fun _ =>
        (0 : Int) ≤ (↑(limb a (1 : Nat)) : Int) ∧
          (0 : Int) ≤ (↑(limb b (1 : Nat)) : Int) ∧
            (0 : Int) ≤
                (↑(adHi (Int.toNat (↑(limb a (0 : Nat)) : Int)) (Int.toNat (↑(limb b (0 : Nat)) : Int)) (0 : Nat)) :
                  Int) ∧
              Int.toNat
                  (↑(adHi (Int.toNat (↑(limb a (0 : Nat)) : Int)) (Int.toNat (↑(limb b (0 : Nat)) : Int)) (0 : Nat)) :
                    Int) ≤
                (1 : Nat),
        fun _ => (0 : Int) ≤ (1 : Int) ∧ (1 : Int) < (4 : Int), fun _ => (2 : Nat) ≤ (4 : Nat), fun _ => true = true,
        fun _ => (0 : Int) ≤ (2 : Int) ∧ (2 : Int) < (4 : Int), fun _ => (0 : Int) ≤ (2 : Int) ∧ (2 : Int) < (4 : Int),
        fun _ =>
        (0 : Int) ≤ (↑(limb a (2 : Nat)) : Int) ∧
          (0 : Int) ≤ (↑(limb b (2 : Nat)) : Int) ∧
            (0 : Int) ≤
                (↑(adHi (Int.toNat (↑(limb a (1 : Nat)) : Int)) (Int.toNat (↑(limb b (1 : Nat)) : Int))
                      (Int.toNat
                        (↑(adHi (Int.toNat (↑(limb a (0 : Nat)) : Int)) (Int.toNat (↑(limb b (0 : Nat)) : Int))
                              (0 : Nat)) :
                          Int))) :
                  Int) ∧
              Int.toNat
                  (↑(adHi (Int.toNat (↑(limb a (1 : Nat)) : Int)) (Int.toNat (↑(limb b (1 : Nat)) : Int))
                        (Int.toNat
                          (↑(adHi (Int.toNat (↑(limb a (0 : Nat)) : Int)) (Int.toNat (↑(limb b (0 : Nat)) : Int))
                                (0 : Nat)) :
                            Int))) :
                    Int) ≤
                (1 : Nat),
        fun _ => (0 : Int) ≤ (2 : Int) ∧ (2 : Int) < (4 : Int), fun _ => (3 : Nat) ≤ (4 : Nat), fun _ => true = true,
        fun _ => (0 : Int) ≤ (3 : Int) ∧ (3 : Int) < (4 : Int), fun _ => (0 : Int) ≤ (3 : Int) ∧ (3 : Int) < (4 : Int),
        fun _ =>
        (0 : Int) ≤ (↑(limb a (3 : Nat)) : Int) ∧
          (0 : Int) ≤ (↑(limb b (3 : Nat)) : Int) ∧
            (0 : Int) ≤
                (↑(adHi (Int.toNat (↑(limb a (2 : Nat)) : Int)) (Int.toNat (↑(limb b (2 : Nat)) : Int))
                      (Int.toNat
                        (↑(adHi (Int.toNat (↑(limb a (1 : Nat)) : Int)) (Int.toNat (↑(limb b (1 : Nat)) : Int))
                              (Int.toNat
                                (↑(adHi (Int.toNat (↑(limb a (0 : Nat)) : Int)) (Int.toNat (↑(limb b (0 : Nat)) : Int))
                                      (0 : Nat)) :
                                  Int))) :
                          Int))) :
                  Int) ∧
              Int.toNat
                  (↑(adHi (Int.toNat (↑(limb a (2 : Nat)) : Int)) (Int.toNat (↑(limb b (2 : Nat)) : Int))
                        (Int.toNat
                          (↑(adHi (Int.toNat (↑(limb a (1 : Nat)) : Int)) (Int.toNat (↑(limb b (1 : Nat)) : Int))
                                (Int.toNat
                                  (↑(adHi (Int.toNat (↑(limb a (0 : Nat)) : Int))
                                        (Int.toNat (↑(limb b (0 : Nat)) : Int)) (0 : Nat)) :
                                    Int))) :
                            Int))) :
                    Int) ≤
                (1 : Nat),
        fun _ => (0 : Int) ≤ (3 : Int) ∧ (3 : Int) < (4 : Int), fun _ => (4 : Nat) ≤ (4 : Nat), fun _ => false = false,
        fun _ => (4 : Nat) ≤ (4 : Nat)]
      (Res.v
        (Value.tuple
          (Array.mk
            [Value.agg
                (Array.mk
                  [Value.int IntKind.u64
                      (↑(adLo (Int.toNat (↑(limb a (0 : Nat)) : Int)) (Int.toNat (↑(limb b (0 : Nat)) : Int))
                            (0 : Nat)) :
                        Int),
                    Value.int IntKind.u64
                      (↑(adLo (Int.toNat (↑(limb a (1 : Nat)) : Int)) (Int.toNat (↑(limb b (1 : Nat)) : Int))
                            (Int.toNat
                              (↑(adHi (Int.toNat (↑(limb a (0 : Nat)) : Int)) (Int.toNat (↑(limb b (0 : Nat)) : Int))
                                    (0 : Nat)) :
                                Int))) :
                        Int),
                    Value.int IntKind.u64
                      (↑(adLo (Int.toNat (↑(limb a (2 : Nat)) : Int)) (Int.toNat (↑(limb b (2 : Nat)) : Int))
                            (Int.toNat
                              (↑(adHi (Int.toNat (↑(limb a (1 : Nat)) : Int)) (Int.toNat (↑(limb b (1 : Nat)) : Int))
                                    (Int.toNat
                                      (↑(adHi (Int.toNat (↑(limb a (0 : Nat)) : Int))
                                            (Int.toNat (↑(limb b (0 : Nat)) : Int)) (0 : Nat)) :
                                        Int))) :
                                Int))) :
                        Int),
                    Value.int IntKind.u64
                      (↑(adLo (Int.toNat (↑(limb a (3 : Nat)) : Int)) (Int.toNat (↑(limb b (3 : Nat)) : Int))
                            (Int.toNat
                              (↑(adHi (Int.toNat (↑(limb a (2 : Nat)) : Int)) (Int.toNat (↑(limb b (2 : Nat)) : Int))
                                    (Int.toNat
                                      (↑(adHi (Int.toNat (↑(limb a (1 : Nat)) : Int))
                                            (Int.toNat (↑(limb b (1 : Nat)) : Int))
                                            (Int.toNat
                                              (↑(adHi (Int.toNat (↑(limb a (0 : Nat)) : Int))
                                                    (Int.toNat (↑(limb b (0 : Nat)) : Int)) (0 : Nat)) :
                                                Int))) :
                                        Int))) :
                                Int))) :
                        Int)]),
              Value.bool
                !(↑(adHi (Int.toNat (↑(limb a (3 : Nat)) : Int)) (Int.toNat (↑(limb b (3 : Nat)) : Int))
                          (Int.toNat
                            (↑(adHi (Int.toNat (↑(limb a (2 : Nat)) : Int)) (Int.toNat (↑(limb b (2 : Nat)) : Int))
                                  (Int.toNat
                                    (↑(adHi (Int.toNat (↑(limb a (1 : Nat)) : Int))
                                          (Int.toNat (↑(limb b (1 : Nat)) : Int))
                                          (Int.toNat
                                            (↑(adHi (Int.toNat (↑(limb a (0 : Nat)) : Int))
                                                  (Int.toNat (↑(limb b (0 : Nat)) : Int)) (0 : Nat)) :
                                              Int))) :
                                      Int))) :
                              Int))) :
                      Int) ==
                    (0 : Int)])))]
 := by kernel_rfl

theorem wsub (a b : Nat) : (((xgo Try.prog X (bodyOf Try.f96) 29 C0 [([0, 1, 0, 1, 1, 1],5)] 50 [Dec.t, Dec.t, Dec.t, Dec.t, Dec.f] Tree.nil [.at []] ⟨argsTm 0 [el a, el b], []⟩ [] []).bind (ends Try.prog Try.f96.results.toList)).bind plainE) =
  some
  [EndP.mk []
      [fun _ => true = true, fun _ => (0 : Int) ≤ (0 : Int) ∧ (0 : Int) < (4 : Int), fun _ =>
        (0 : Int) ≤ (0 : Int) ∧ (0 : Int) < (4 : Int), fun _ =>
        (0 : Int) ≤ (↑(limb a (0 : Nat)) : Int) ∧
          (0 : Int) ≤ (↑(limb b (0 : Nat)) : Int) ∧ (0 : Int) ≤ (0 : Int) ∧ (0 : Nat) ≤ (1 : Nat),
        fun _ => (0 : Int) ≤ (0 : Int) ∧ (0 : Int) < (4 : Int), fun _ => (1 : Nat) ≤ (4 : Nat), fun _ => true = true,
        fun _ => (0 : Int) ≤ (1 : Int) ∧ (1 : Int) < (4 : Int), fun _ => (0 : Int) ≤ (1 : Int) ∧ (1 : Int) < (4 : Int),
        fun _ =>
        (0 : Int) ≤ (↑(limb a (1 : Nat)) : Int) ∧
          (0 : Int) ≤ (↑(limb b (1 : Nat)) : Int) ∧
            (0 : Int) ≤
                (↑(sbHi (Int.toNat (↑(limb a (0 : Nat)) : Int)) (Int.toNat (↑(limb b (0 : Nat)) : Int)) (0 : Nat)) :
                  Int) ∧
              Int.toNat
                  (↑(sbHi (Int.toNat (↑(limb a (0 : Nat)) : Int)) (Int.toNat (↑(limb b (0 : Nat)) : Int)) (0 : Nat)) :
                    Int) ≤
                (1 : Nat),
        fun _ => (0 : Int) ≤ (1 : Int) ∧ (1 : Int) < (4 : Int), fun _ => (2 : Nat) ≤ (4 : Nat), fun _ => true = true,
        fun _ => (0 : Int) ≤ (2 : Int) ∧ (2 : Int) < (4 : Int), fun _ => (0 : Int) ≤ (2 : Int) ∧ (2 : Int) < (4 : Int),
        fun _ =>
        (0 : Int) ≤ (↑(limb a (2 : Nat)) : Int) ∧
          (0 : Int) ≤ (↑(limb b (2 : Nat)) : Int) ∧
            (0 : Int) ≤
                (↑(sbHi (Int.toNat (↑(limb a (1 : Nat)) : Int)) (Int.toNat (↑(limb b (1 : Nat)) : Int))
                      (Int.toNat
                        (↑(sbHi (Int.toNat (↑(limb a (0 : Nat)) : Int)) (Int.toNat (↑(limb b (0 : Nat)) : Int))
                              (0 : Nat)) :
                          Int))) :
                  Int) ∧
              Int.toNat
                  (↑(sbHi (Int.toNat (↑(limb a (1 : Nat)) : Int)) (Int.toNat (↑(limb b (1 : Nat)) : Int))
                        (Int.toNat
                          (↑(sbHi (Int.toNat (↑(limb a (0 : Nat)) : Int)) (Int.toNat (↑(limb b (0 : Nat)) : Int))
                                (0 : Nat)) :
                            Int))) :
                    Int) ≤
                (1 : Nat),
        fun _ => (0 : Int) ≤ (2 : Int) ∧ (2 : Int) < (4 : Int), fun _ => (3 : Nat) ≤ (4 : Nat), fun _ => true = true,
        fun _ => (0 : Int) ≤ (3 : Int) ∧ (3 : Int) < (4 : Int), fun _ => (0 : Int) ≤ (3 : Int) ∧ (3 : Int) < (4 : Int),
        fun _ =>
        (0 : Int) ≤ (↑(limb a (3 : Nat)) : Int) ∧
          (0 : Int) ≤ (↑(limb b (3 : Nat)) : Int) ∧
            (0 : Int) ≤
                (↑(sbHi (Int.toNat (↑(limb a (2 : Nat)) : Int)) (Int.toNat (↑(limb b (2 : Nat)) : Int))
                      (Int.toNat
                        (↑(sbHi (Int.toNat (↑(limb a (1 : Nat)) : Int)) (Int.toNat (↑(limb b (1 : Nat)) : Int))
                              (Int.toNat
                                (↑(sbHi (Int.toNat (↑(limb a (0 : Nat)) : Int)) (Int.toNat (↑(limb b (0 : Nat)) : Int))
                                      (0 : Nat)) :
                                  Int))) :
                          Int))) :
                  Int) ∧
              Int.toNat
                  (↑(sbHi (Int.toNat (↑(limb a (2 : Nat)) : Int)) (Int.toNat (↑(limb b (2 : Nat)) : Int))
                        (Int.toNat
                          (↑(sbHi (Int.toNat (↑(limb a (1 : Nat)) : Int)) (Int.toNat (↑(limb b (1 : Nat)) : Int))
                                (Int.toNat
                                  (↑(sbHi (Int.toNat (↑(limb a (0 : Nat)) : Int))
                                        (Int.toNat (↑(limb b (0 : Nat)) : Int)) (0 : Nat)) :
                                    Int))) :
                            Int))) :
                    Int) ≤
                (1 : Nat),
        fun _ => (0 : Int) ≤ (3 : Int) ∧ (3 : Int) < (4 : Int), fun _ => (4 : Nat) ≤ (4 : Nat), fun _ => false = false,
        fun _ => (4 : Nat) ≤ (4 : Nat)]
      (Res.v
        (Value.tuple
          (Array.mk
            [Value.agg
                (Array.mk
                  [Value.int IntKind.u64
                      (↑(sbLo (Int.toNat (↑(limb a (0 : Nat)) : Int)) (Int.toNat (↑(limb b (0 : Nat)) : Int))
                            (0 : Nat)) :
                        Int),
                    Value.int IntKind.u64
                      (↑(sbLo (Int.toNat (↑(limb a (1 : Nat)) : Int)) (Int.toNat (↑(limb b (1 : Nat)) : Int))
                            (Int.toNat
                              (↑(sbHi (Int.toNat (↑(limb a (0 : Nat)) : Int)) (Int.toNat (↑(limb b (0 : Nat)) : Int))
                                    (0 : Nat)) :
                                Int))) :
                        Int),
                    Value.int IntKind.u64
                      (↑(sbLo (Int.toNat (↑(limb a (2 : Nat)) : Int)) (Int.toNat (↑(limb b (2 : Nat)) : Int))
                            (Int.toNat
                              (↑(sbHi (Int.toNat (↑(limb a (1 : Nat)) : Int)) (Int.toNat (↑(limb b (1 : Nat)) : Int))
                                    (Int.toNat
                                      (↑(sbHi (Int.toNat (↑(limb a (0 : Nat)) : Int))
                                            (Int.toNat (↑(limb b (0 : Nat)) : Int)) (0 : Nat)) :
                                        Int))) :
                                Int))) :
                        Int),
                    Value.int IntKind.u64
                      (↑(sbLo (Int.toNat (↑(limb a (3 : Nat)) : Int)) (Int.toNat (↑(limb b (3 : Nat)) : Int))
                            (Int.toNat
                              (↑(sbHi (Int.toNat (↑(limb a (2 : Nat)) : Int)) (Int.toNat (↑(limb b (2 : Nat)) : Int))
                                    (Int.toNat
                                      (↑(sbHi (Int.toNat (↑(limb a (1 : Nat)) : Int))
                                            (Int.toNat (↑(limb b (1 : Nat)) : Int))
                                            (Int.toNat
                                              (↑(sbHi (Int.toNat (↑(limb a (0 : Nat)) : Int))
                                                    (Int.toNat (↑(limb b (0 : Nat)) : Int)) (0 : Nat)) :
                                                Int))) :
                                        Int))) :
                                Int))) :
                        Int)]),
              Value.bool
                !(↑(sbHi (Int.toNat (↑(limb a (3 : Nat)) : Int)) (Int.toNat (↑(limb b (3 : Nat)) : Int))
                          (Int.toNat
                            (↑(sbHi (Int.toNat (↑(limb a (2 : Nat)) : Int)) (Int.toNat (↑(limb b (2 : Nat)) : Int))
                                  (Int.toNat
                                    (↑(sbHi (Int.toNat (↑(limb a (1 : Nat)) : Int))
                                          (Int.toNat (↑(limb b (1 : Nat)) : Int))
                                          (Int.toNat
                                            (↑(sbHi (Int.toNat (↑(limb a (0 : Nat)) : Int))
                                                  (Int.toNat (↑(limb b (0 : Nat)) : Int)) (0 : Nat)) :
                                              Int))) :
                                      Int))) :
                              Int))) :
                      Int) ==
                    (0 : Int)])))]
 := by kernel_rfl

/-- A sum limb by limb. -/
theorem add_limbs (a0 a1 a2 a3 b0 b1 b2 b3 c1 c2 c3 c4 s0 s1 s2 s3 : Nat) (h0 : a0 + b0 = s0 + 18446744073709551616 * c1) (h1 : a1 + b1 + c1 = s1 + 18446744073709551616 * c2) (h2 : a2 + b2 + c2 = s2 + 18446744073709551616 * c3)
    (h3 : a3 + b3 + c3 = s3 + 18446744073709551616 * c4) : nv a0 a1 a2 a3 + nv b0 b1 b2 b3 = nv s0 s1 s2 s3 + top * c4 := by
  simp only [nv, top]; omega
theorem sub_limbs (a0 a1 a2 a3 b0 b1 b2 b3 c1 c2 c3 c4 s0 s1 s2 s3 : Nat) (h0 : a0 + 18446744073709551616 * c1 = s0 + b0) (h1 : a1 + 18446744073709551616 * c2 = s1 + b1 + c1) (h2 : a2 + 18446744073709551616 * c3 = s2 + b2 + c2)
    (h3 : a3 + 18446744073709551616 * c4 = s3 + b3 + c3) : nv a0 a1 a2 a3 + top * c4 = nv s0 s1 s2 s3 + nv b0 b1 b2 b3 := by
  simp only [nv, top]; omega
theorem el_add_top (n c : Nat) : el (n + top * c) = el n := by
  rw [← el_mod, Nat.add_mul_mod_self_left, el_mod]
theorem ad_eq (x y c : Nat) : x + y + c = adLo x y c + 18446744073709551616 * adHi x y c ∧ adLo x y c < 18446744073709551616 := by
  rw [adLo_eq, adHi_eq]; omega
theorem sb_eq (x y c : Nat) (hx : x < 18446744073709551616) (hy : y < 18446744073709551616) (hc : c ≤ 1) : x + 18446744073709551616 * sbHi x y c = sbLo x y c + y + c ∧ sbLo x y c < 18446744073709551616 ∧ sbHi x y c ≤ 1 := by
  rw [sbLo_eq, sbHi_eq]; split <;> omega
theorem adHi_le (x y c : Nat) (hx : x < 18446744073709551616) (hy : y < 18446744073709551616) (hc : c ≤ 1) : adHi x y c ≤ 1 := by
  rw [adHi_eq]; omega
theorem nv_self (a : Nat) (ha : a < top) : nv (limb a 0) (limb a 1) (limb a 2) (limb a 3) = a := by rw [nv_limb, Nat.mod_eq_of_lt ha]
theorem top_pos : 0 < top := by simp only [top]; omega
theorem add_ok (a b : Nat) (ha : a < top) (hb : b < top) (w : World) : Calls Try.prog 90 [el a, el b].toArray w (fun E w' => ∃ v, E = .returned v ∧ Res.ok w w' (.v (.tuple #[el (a + b), .bool (decide (top ≤ a + b))])) v ∧ Below w.heap.size w w') := by
  have a0 := limb_lt a 0
  have b0 := limb_lt b 0
  have a1 := limb_lt a 1
  have b1 := limb_lt b 1
  have a2 := limb_lt a 2
  have b2 := limb_lt b 2
  have a3 := limb_lt a 3
  have b3 := limb_lt b 3
  refine con_end (calls_plain hm Try.func90 (by kernel_rfl) rfl rfl 50 _ _ (wadd a b) ⟨fun _ => ⟨?_, ?_⟩, trivial⟩)
  · simp only [hold_cons, hold_nil, and_true, Int.toNat_natCast]
    have q0 := ad_eq (limb a 0) (limb b 0) 0
    have u0 := adHi_le (limb a 0) (limb b 0) 0 a0 b0 (by omega)
    generalize adHi (limb a 0) (limb b 0) 0 = c1 at *
    generalize adLo (limb a 0) (limb b 0) 0 = s0 at *
    have q1 := ad_eq (limb a 1) (limb b 1) c1
    have u1 := adHi_le (limb a 1) (limb b 1) c1 a1 b1 (by omega)
    generalize adHi (limb a 1) (limb b 1) c1 = c2 at *
    generalize adLo (limb a 1) (limb b 1) c1 = s1 at *
    have q2 := ad_eq (limb a 2) (limb b 2) c2
    have u2 := adHi_le (limb a 2) (limb b 2) c2 a2 b2 (by omega)
    generalize adHi (limb a 2) (limb b 2) c2 = c3 at *
    generalize adLo (limb a 2) (limb b 2) c2 = s2 at *
    have q3 := ad_eq (limb a 3) (limb b 3) c3
    have u3 := adHi_le (limb a 3) (limb b 3) c3 a3 b3 (by omega)
    generalize adHi (limb a 3) (limb b 3) c3 = c4 at *
    generalize adLo (limb a 3) (limb b 3) c3 = s3 at *
    repeat' apply And.intro
    all_goals first | exact trivial | (intro _ _; first | exact trivial | rfl | omega | skip)
  · simp only [Int.toNat_natCast]
    have q0 := ad_eq (limb a 0) (limb b 0) 0
    have u0 := adHi_le (limb a 0) (limb b 0) 0 a0 b0 (by omega)
    generalize adHi (limb a 0) (limb b 0) 0 = c1 at *
    generalize adLo (limb a 0) (limb b 0) 0 = s0 at *
    have q1 := ad_eq (limb a 1) (limb b 1) c1
    have u1 := adHi_le (limb a 1) (limb b 1) c1 a1 b1 (by omega)
    generalize adHi (limb a 1) (limb b 1) c1 = c2 at *
    generalize adLo (limb a 1) (limb b 1) c1 = s1 at *
    have q2 := ad_eq (limb a 2) (limb b 2) c2
    have u2 := adHi_le (limb a 2) (limb b 2) c2 a2 b2 (by omega)
    generalize adHi (limb a 2) (limb b 2) c2 = c3 at *
    generalize adLo (limb a 2) (limb b 2) c2 = s2 at *
    have q3 := ad_eq (limb a 3) (limb b 3) c3
    have u3 := adHi_le (limb a 3) (limb b 3) c3 a3 b3 (by omega)
    generalize adHi (limb a 3) (limb b 3) c3 = c4 at *
    generalize adLo (limb a 3) (limb b 3) c3 = s3 at *
    have this := add_limbs (limb a 0) (limb a 1) (limb a 2) (limb a 3) (limb b 0) (limb b 1) (limb b 2) (limb b 3) c1 c2 c3 c4 s0 s1 s2 s3 q0.1 q1.1 q2.1 q3.1
    rw [nv_self a ha, nv_self b hb] at this
    have hlt := nv_lt q0.2 q1.2 q2.2 q3.2
    rw [this, el_add_top, el_nv q0.2 q1.2 q2.2 q3.2]
    refine congrArg (fun x => Res.v (Value.tuple #[_, Value.bool x])) ?_
    have ht : (top ≤ nv s0 s1 s2 s3 + top * c4) ↔ ¬ ((c4 : Int) = 0) := by
      have := top_pos
      constructor
      · intro h h0
        have h0 : c4 = 0 := by omega
        subst h0
        omega
      · intro h
        have h1 : 1 ≤ c4 := by omega
        have := Nat.mul_le_mul_left top h1
        omega
    rw [Bool.eq_iff_iff, decide_eq_true_iff, ht]
    simp
theorem sub_ok (a b : Nat) (ha : a < top) (hb : b < top) (w : World) : Calls Try.prog 96 [el a, el b].toArray w (fun E w' => ∃ v, E = .returned v ∧ Res.ok w w' (.v (.tuple #[el (a + top - b), .bool (decide (a < b))])) v ∧ Below w.heap.size w w') := by
  have a0 := limb_lt a 0
  have b0 := limb_lt b 0
  have a1 := limb_lt a 1
  have b1 := limb_lt b 1
  have a2 := limb_lt a 2
  have b2 := limb_lt b 2
  have a3 := limb_lt a 3
  have b3 := limb_lt b 3
  refine con_end (calls_plain hm Try.func96 (by kernel_rfl) rfl rfl 50 _ _ (wsub a b) ⟨fun _ => ⟨?_, ?_⟩, trivial⟩)
  · simp only [hold_cons, hold_nil, and_true, Int.toNat_natCast]
    have q0 := sb_eq (limb a 0) (limb b 0) 0 a0 b0 (by omega)
    generalize sbHi (limb a 0) (limb b 0) 0 = c1 at *
    generalize sbLo (limb a 0) (limb b 0) 0 = s0 at *
    have q1 := sb_eq (limb a 1) (limb b 1) c1 a1 b1 (by omega)
    generalize sbHi (limb a 1) (limb b 1) c1 = c2 at *
    generalize sbLo (limb a 1) (limb b 1) c1 = s1 at *
    have q2 := sb_eq (limb a 2) (limb b 2) c2 a2 b2 (by omega)
    generalize sbHi (limb a 2) (limb b 2) c2 = c3 at *
    generalize sbLo (limb a 2) (limb b 2) c2 = s2 at *
    have q3 := sb_eq (limb a 3) (limb b 3) c3 a3 b3 (by omega)
    generalize sbHi (limb a 3) (limb b 3) c3 = c4 at *
    generalize sbLo (limb a 3) (limb b 3) c3 = s3 at *
    repeat' apply And.intro
    all_goals first | exact trivial | (intro _ _; first | exact trivial | rfl | omega | skip)
  · simp only [Int.toNat_natCast]
    have q0 := sb_eq (limb a 0) (limb b 0) 0 a0 b0 (by omega)
    generalize sbHi (limb a 0) (limb b 0) 0 = c1 at *
    generalize sbLo (limb a 0) (limb b 0) 0 = s0 at *
    have q1 := sb_eq (limb a 1) (limb b 1) c1 a1 b1 (by omega)
    generalize sbHi (limb a 1) (limb b 1) c1 = c2 at *
    generalize sbLo (limb a 1) (limb b 1) c1 = s1 at *
    have q2 := sb_eq (limb a 2) (limb b 2) c2 a2 b2 (by omega)
    generalize sbHi (limb a 2) (limb b 2) c2 = c3 at *
    generalize sbLo (limb a 2) (limb b 2) c2 = s2 at *
    have q3 := sb_eq (limb a 3) (limb b 3) c3 a3 b3 (by omega)
    generalize sbHi (limb a 3) (limb b 3) c3 = c4 at *
    generalize sbLo (limb a 3) (limb b 3) c3 = s3 at *
    have this := sub_limbs (limb a 0) (limb a 1) (limb a 2) (limb a 3) (limb b 0) (limb b 1) (limb b 2) (limb b 3) c1 c2 c3 c4 s0 s1 s2 s3 q0.1 q1.1 q2.1 q3.1
    rw [nv_self a ha, nv_self b hb] at this
    have hlt := nv_lt q0.2.1 q1.2.1 q2.2.1 q3.2.1
    have hc4 : c4 = 0 ∨ c4 = 1 := by omega
    have he : el (a + top - b) = el (nv s0 s1 s2 s3) := by
      rcases hc4 with h | h
      · subst h
        rw [show a + top - b = nv s0 s1 s2 s3 + top * 1 by omega, el_add_top]
      · subst h
        rw [show a + top - b = nv s0 s1 s2 s3 by omega]
    rw [he, el_nv q0.2.1 q1.2.1 q2.2.1 q3.2.1]
    refine congrArg (fun x => Res.v (Value.tuple #[_, Value.bool x])) ?_
    rw [Bool.eq_iff_iff, decide_eq_true_iff]
    rcases hc4 with h | h
    · subst h
      simp
      omega
    · subst h
      simp
      omega
noncomputable def gWAdd : List RV → Option (Res × Prop)
  | [.v x, .v y] => match unEl x, unEl y with
    | some a, some b => some (.v (.tuple #[el (a + b), .bool (decide (top ≤ a + b))]), x = el a ∧ y = el b ∧ a < top ∧ b < top)
    | _, _ => none
  | _ => none
noncomputable def gWSub : List RV → Option (Res × Prop)
  | [.v x, .v y] => match unEl x, unEl y with
    | some a, some b => some (.v (.tuple #[el (a + top - b), .bool (decide (a < b))]), x = el a ∧ y = el b ∧ a < top ∧ b < top)
    | _, _ => none
  | _ => none
theorem gWAdd_ok (rvs : List RV) (r : Res) (p : Prop) (vs : List Value) (w : World) (hg : gWAdd rvs = some (r, p)) (hp : p) (hv : RVs (wmem w) rvs vs) : Calls Try.prog 90 vs.toArray w (fun E w' => ∃ v, E = .returned v ∧ r.ok w w' v ∧ Below w.heap.size w w') := by
  unfold gWAdd at hg
  split at hg
  · split at hg
    · simp only [Option.some.injEq, Prod.mk.injEq] at hg
      obtain ⟨rfl, rfl⟩ := hg
      obtain ⟨h1, h2, h3, h4⟩ := hp
      rw [rvs2 hv, h1, h2]
      exact add_ok _ _ h3 h4 w
    · cases hg
  · cases hg
theorem gWSub_ok (rvs : List RV) (r : Res) (p : Prop) (vs : List Value) (w : World) (hg : gWSub rvs = some (r, p)) (hp : p) (hv : RVs (wmem w) rvs vs) : Calls Try.prog 96 vs.toArray w (fun E w' => ∃ v, E = .returned v ∧ r.ok w w' v ∧ Below w.heap.size w w') := by
  unfold gWSub at hg
  split at hg
  · split at hg
    · simp only [Option.some.injEq, Prod.mk.injEq] at hg
      obtain ⟨rfl, rfl⟩ := hg
      obtain ⟨h1, h2, h3, h4⟩ := hp
      rw [rvs2 hv, h1, h2]
      exact sub_ok _ _ h3 h4 w
    · cases hg
  · cases hg
noncomputable def L1 : Con Try.prog := (K19.add 90 gWAdd gWAdd_ok).add 96 gWSub gWSub_ok
end Go.Proofs.Ytpghmnpbfaichaa

namespace Go.Proofs.Ytpghmnpbfaichaa
open Go.Sx Go.Pl Go.RowKit
theorem wrap_u64 (z : Int) : IntKind.wrap .u64 z = z % 18446744073709551616 := by
  simp [IntKind.wrap, IntKind.bits, IntKind.signed]
theorem tmodNat (n k : Nat) : Int.tmod (n : Int) (k : Int) = ((n % k : Nat) : Int) := by
  rw [Int.tmod_eq_emod_of_nonneg (by omega)]; rfl
theorem tdivNat (n k : Nat) : Int.tdiv (n : Int) (k : Int) = ((n / k : Nat) : Int) := by
  rw [Int.tdiv_eq_ediv_of_nonneg (by omega)]; rfl
theorem rvs3 {M : Mem} {x y z : Value} {vs : List Value} (h : RVs M [.v x, .v y, .v z] vs) : vs = [x, y, z] := by
  match vs, h with
  | [a, b, c], ⟨h1, h2, h3, _⟩ => rw [h1, h2, h3]
theorem fdivN (a : Nat) : Int.fdiv (a : Int) 4294967296 = ((a / 4294967296 : Nat) : Int) := by
  rw [Int.fdiv_eq_ediv_of_nonneg _ (by omega)]; omega
theorem mulN (a b : Nat) : (a : Int) * (b : Int) = ((a * b : Nat) : Int) := (Int.natCast_mul a b).symm
theorem addN (a b : Nat) : (a : Int) + (b : Int) = ((a + b : Nat) : Int) := (Int.natCast_add a b).symm
theorem wrapN (a : Nat) (ha : a < 18446744073709551616) : IntKind.wrap .u64 (a : Int) = (a : Int) := by rw [wrap_u64]; omega
theorem rvs1 {M : Mem} {x : Value} {vs : List Value} (h : RVs M [.v x] vs) : vs = [x] := by
  match vs, h with
  | [a], ⟨h1, _⟩ => rw [h1]
theorem lena : (((xgo Try.prog X (bodyOf Try.f100) 25 L1 [] 50 [.f, .t, .f] (.nil) [.at []] ⟨argsTm 0 [.int .u64 16513537], []⟩ [] []).bind (ends Try.prog Try.f100.results.toList)).bind plainE) =
  some [EndP.mk [] [fun _ => false = false,
    fun _ => true = true,
    fun _ => ¬(16 : Int) < (0 : Int),
    fun _ => false = false,
    fun _ => (0 : Int) ≤ (251 : Int) ∧ (251 : Int) < (256 : Int)] (Res.v (Value.int IntKind.i64 (24 : Int)))]
  := by kernel_rfl

theorem lenb : (((xgo Try.prog X (bodyOf Try.f100) 25 L1 [] 50 [.f, .t, .f] (.nil) [.at []] ⟨argsTm 0 [.int .u64 16521217], []⟩ [] []).bind (ends Try.prog Try.f100.results.toList)).bind plainE) =
  some [EndP.mk [] [fun _ => false = false,
    fun _ => true = true,
    fun _ => ¬(16 : Int) < (0 : Int),
    fun _ => false = false,
    fun _ => (0 : Int) ≤ (252 : Int) ∧ (252 : Int) < (256 : Int)] (Res.v (Value.int IntKind.i64 (24 : Int)))]
  := by kernel_rfl

noncomputable def gLen (A : Int) : List RV → Option (Res × Prop)
  | [.v (.int .u64 y)] => some (.v (.int .i64 A), y = 16513537 ∨ y = 16521217)
  | _ => none
theorem gLen_ok {f : FuncId} {A : Int} (h : ∀ (y : Int), y = 16513537 ∨ y = 16521217 → ∀ w, Calls Try.prog f [.int .u64 y].toArray w (fun E w' => ∃ v, E = .returned v ∧ Res.ok w w' (.v (.int .i64 A)) v ∧ Below w.heap.size w w'))
    (rvs : List RV) (r : Res) (p : Prop) (vs : List Value) (w : World) (hg : gLen A rvs = some (r, p)) (hp : p) (hv : RVs (wmem w) rvs vs) : Calls Try.prog f vs.toArray w (fun E w' => ∃ v, E = .returned v ∧ r.ok w w' v ∧ Below w.heap.size w w') := by
  unfold gLen at hg
  split at hg
  · rename_i y
    simp only [Option.some.injEq, Prod.mk.injEq] at hg
    obtain ⟨rfl, rfl⟩ := hg
    rw [rvs1 hv]
    exact h y hp w
  · cases hg
theorem len_ok (y : Int) (hy : y = 16513537 ∨ y = 16521217) (w : World) : Calls Try.prog 100 [.int .u64 y].toArray w (fun E w' => ∃ v, E = .returned v ∧ Res.ok w w' (.v (.int .i64 24)) v ∧ Below w.heap.size w w') := by
  rcases hy with rfl | rfl
  · refine con_end (calls_plain hm Try.func100 (by kernel_rfl) rfl rfl 50 _ _ lena ⟨fun _ => ⟨?_, rfl⟩, trivial⟩)
    simp only [hold_cons, hold_nil, and_true]
    exact ⟨fun _ _ => trivial, fun _ _ => trivial, fun _ _ => by omega, fun _ _ => trivial, fun _ _ => ⟨by omega, by omega⟩⟩
  · refine con_end (calls_plain hm Try.func100 (by kernel_rfl) rfl rfl 50 _ _ lenb ⟨fun _ => ⟨?_, rfl⟩, trivial⟩)
    simp only [hold_cons, hold_nil, and_true]
    exact ⟨fun _ _ => trivial, fun _ _ => trivial, fun _ _ => by omega, fun _ _ => trivial, fun _ _ => ⟨by omega, by omega⟩⟩
noncomputable def L2a : Con Try.prog := L1.add 100 (gLen 24) (gLen_ok len_ok)
end Go.Proofs.Ytpghmnpbfaichaa

namespace Go.Proofs.Ytpghmnpbfaichaa
open Go.Sx Go.Pl Go.RowKit
set_option linter.unusedVariables false
theorem lza (z : Nat) : (((xgo Try.prog X (bodyOf Try.f98) 6 L2a [] 50 [] (.nil) [.at []] ⟨argsTm 0 [.int .u64 16513537], []⟩ [] []).bind (ends Try.prog Try.f98.results.toList)).bind plainE) =
  some [EndP.mk [] [fun _ => (16513537 : Int) = (16513537 : Int) ∨ (16513537 : Int) = (16521217 : Int)] (Res.v (Value.int IntKind.i64 (40 : Int)))]
  := by kernel_rfl

theorem lzb (z : Nat) : (((xgo Try.prog X (bodyOf Try.f98) 6 L2a [] 50 [] (.nil) [.at []] ⟨argsTm 0 [.int .u64 16521217], []⟩ [] []).bind (ends Try.prog Try.f98.results.toList)).bind plainE) =
  some [EndP.mk [] [fun _ => (16521217 : Int) = (16513537 : Int) ∨ (16521217 : Int) = (16521217 : Int)] (Res.v (Value.int IntKind.i64 (40 : Int)))]
  := by kernel_rfl

theorem lz_ok (y : Int) (hy : y = 16513537 ∨ y = 16521217) (w : World) : Calls Try.prog 98 [.int .u64 y].toArray w (fun E w' => ∃ v, E = .returned v ∧ Res.ok w w' (.v (.int .i64 40)) v ∧ Below w.heap.size w w') := by
  rcases hy with rfl | rfl
  · refine con_end (calls_plain hm Try.func98 (by kernel_rfl) rfl rfl 50 _ _ (lza 0) ⟨fun _ => ⟨?_, rfl⟩, trivial⟩)
    simp only [hold_cons, hold_nil, and_true]
    exact fun _ _ => by simp
  · refine con_end (calls_plain hm Try.func98 (by kernel_rfl) rfl rfl 50 _ _ (lzb 0) ⟨fun _ => ⟨?_, rfl⟩, trivial⟩)
    simp only [hold_cons, hold_nil, and_true]
    exact fun _ _ => by simp
noncomputable def L2 : Con Try.prog := L2a.add 98 (gLen 40) (gLen_ok lz_ok)
end Go.Proofs.Ytpghmnpbfaichaa

namespace Go.Pl
open Go.Sx
noncomputable def dvQ (y hi lo : Nat) : Nat := hide ((hi * 18446744073709551616 + lo) / y)
noncomputable def dvR (y hi lo : Nat) : Nat := hide ((hi * 18446744073709551616 + lo) % y)
theorem or_at (k a b : Nat) (hb : b < 2 ^ k) : a * 2 ^ k ||| b = a * 2 ^ k + b := by
  rw [Nat.mul_comm, ← Nat.two_pow_add_eq_or_of_lt hb]
theorem and32 (a : Nat) (h : a % 4294967296 = 0) : a &&& 4294967295 = 0 := by
  have e : a &&& 4294967295 = a % 4294967296 := Nat.and_two_pow_sub_one_eq_mod a 32
  rw [e, h]
theorem int_eq {k : IntKind} {x y : Int} (h : x = y) : Value.int k x = Value.int k y := by rw [h]
theorem tup2 {k : IntKind} {a b c d : Int} (h1 : a = b) (h2 : c = d) : Res.v (Value.tuple (Array.mk [Value.int k a, Value.int k c])) = Res.v (.tuple #[.int k b, .int k d]) := by rw [h1, h2]
theorem toNat_mod (n : Nat) (h : n < 18446744073709551616) : Int.toNat ((n : Int) % (18446744073709551616 : Int)) = n := by omega
theorem fdiv_nat (n q : Nat) (hq : 0 < q) : Int.fdiv (n : Int) (q : Int) = ((n / q : Nat) : Int) := by
  rw [Int.fdiv_eq_ediv_of_nonneg _ (by omega)]
  exact (Int.natCast_ediv n q).symm
theorem div_core (p y X N W : Nat) (hp : 0 < p) (hy : 0 < y) (h : p * N = p * (y * X) + W) (hW : W < p * y) : N / y = X ∧ W / p = N % y := by
  have h1 : y * X ≤ N := Nat.le_of_mul_le_mul_left (by omega : p * (y * X) ≤ p * N) hp
  obtain ⟨d, rfl⟩ := Nat.exists_eq_add_of_le h1
  rw [Nat.mul_add] at h
  have h2 : W = p * d := by omega
  subst h2
  have h3 : d < y := Nat.lt_of_mul_lt_mul_left hW
  rw [Nat.mul_div_cancel_left _ hp, Nat.mul_add_div hy, Nat.div_eq_of_lt h3, Nat.mul_add_mod, Nat.mod_eq_of_lt h3]
  exact ⟨rfl, rfl⟩
noncomputable def dAp (hi _lo : Nat) : Nat := hide (hi * 1099511627776)
noncomputable def dUp (hi lo : Nat) : Nat := hide (hi * 1099511627776 + lo / 16777216)
noncomputable def dVp (_hi lo : Nat) : Nat := hide (lo % 16777216 * 1099511627776)
noncomputable def dCp (_hi lo : Nat) : Nat := hide (lo % 16777216 * 256)
noncomputable def dQp (hi lo : Nat) : Nat := hide (dUp hi lo / 4227465472)
noncomputable def dEp (hi lo : Nat) : Nat := hide (dQp hi lo * 4227465472)
noncomputable def dRp (hi lo : Nat) : Nat := hide (dUp hi lo % 4227465472)
noncomputable def dNp (hi lo : Nat) : Nat := hide (dRp hi lo * 4294967296 + dCp hi lo)
noncomputable def dSp (hi lo : Nat) : Nat := hide (dNp hi lo / 4227465472)
noncomputable def dFp (hi lo : Nat) : Nat := hide (dSp hi lo * 4227465472)
noncomputable def dTp (hi lo : Nat) : Nat := hide (dNp hi lo % 4227465472)
theorem div_factsp (hi lo : Nat) : ∃ l1 L : Nat, lo = l1 * 16777216 + L ∧ L < 16777216 ∧ lo / 16777216 = l1 ∧ dAp hi lo = hi * 1099511627776 ∧ dUp hi lo = hi * 1099511627776 + l1 ∧ dVp hi lo = L * 1099511627776 ∧ dCp hi lo = L * 256 ∧
    dUp hi lo = 4227465472 * dQp hi lo + dRp hi lo ∧ dRp hi lo < 4227465472 ∧ dEp hi lo = dQp hi lo * 4227465472 ∧ dNp hi lo = dRp hi lo * 4294967296 + dCp hi lo ∧ dNp hi lo = 4227465472 * dSp hi lo + dTp hi lo ∧ dTp hi lo < 4227465472 ∧ dFp hi lo = dSp hi lo * 4227465472 ∧
    dQp hi lo = dUp hi lo / 4227465472 ∧ dSp hi lo = dNp hi lo / 4227465472 :=
  ⟨lo / 16777216, lo % 16777216, by omega, Nat.mod_lt _ (by omega), rfl, hide_eq _, hide_eq _, hide_eq _, hide_eq _, by rw [dQp, dRp, hide_eq, hide_eq]; exact (Nat.div_add_mod _ _).symm, by rw [dRp, hide_eq]; exact Nat.mod_lt _ (by omega),
    hide_eq _, hide_eq _, by rw [dSp, dTp, hide_eq, hide_eq]; exact (Nat.div_add_mod _ _).symm, by rw [dTp, hide_eq]; exact Nat.mod_lt _ (by omega), hide_eq _, hide_eq _, hide_eq _⟩
theorem div_keyp (hi l1 L q1 R q0 R0 : Nat) (hU : hi * 1099511627776 + l1 = 4227465472 * q1 + R) (hUN : R * 4294967296 + L * 256 = 4227465472 * q0 + R0) :
    1099511627776 * (hi * 18446744073709551616 + (l1 * 16777216 + L)) = 1099511627776 * (16513537 * (q1 * 4294967296 + q0)) + R0 * 4294967296 := by
  have k1 := congrArg (· * 18446744073709551616) hU
  have k2 := congrArg (· * 4294967296) hUN
  simp only [Nat.add_mul] at k1 k2
  omega
noncomputable def dAq (hi _lo : Nat) : Nat := hide (hi * 1099511627776)
noncomputable def dUq (hi lo : Nat) : Nat := hide (hi * 1099511627776 + lo / 16777216)
noncomputable def dVq (_hi lo : Nat) : Nat := hide (lo % 16777216 * 1099511627776)
noncomputable def dCq (_hi lo : Nat) : Nat := hide (lo % 16777216 * 256)
noncomputable def dQq (hi lo : Nat) : Nat := hide (dUq hi lo / 4229431552)
noncomputable def dEq (hi lo : Nat) : Nat := hide (dQq hi lo * 4229431552)
noncomputable def dRq (hi lo : Nat) : Nat := hide (dUq hi lo % 4229431552)
noncomputable def dNq (hi lo : Nat) : Nat := hide (dRq hi lo * 4294967296 + dCq hi lo)
noncomputable def dSq (hi lo : Nat) : Nat := hide (dNq hi lo / 4229431552)
noncomputable def dFq (hi lo : Nat) : Nat := hide (dSq hi lo * 4229431552)
noncomputable def dTq (hi lo : Nat) : Nat := hide (dNq hi lo % 4229431552)
theorem div_factsq (hi lo : Nat) : ∃ l1 L : Nat, lo = l1 * 16777216 + L ∧ L < 16777216 ∧ lo / 16777216 = l1 ∧ dAq hi lo = hi * 1099511627776 ∧ dUq hi lo = hi * 1099511627776 + l1 ∧ dVq hi lo = L * 1099511627776 ∧ dCq hi lo = L * 256 ∧
    dUq hi lo = 4229431552 * dQq hi lo + dRq hi lo ∧ dRq hi lo < 4229431552 ∧ dEq hi lo = dQq hi lo * 4229431552 ∧ dNq hi lo = dRq hi lo * 4294967296 + dCq hi lo ∧ dNq hi lo = 4229431552 * dSq hi lo + dTq hi lo ∧ dTq hi lo < 4229431552 ∧ dFq hi lo = dSq hi lo * 4229431552 ∧
    dQq hi lo = dUq hi lo / 4229431552 ∧ dSq hi lo = dNq hi lo / 4229431552 :=
  ⟨lo / 16777216, lo % 16777216, by omega, Nat.mod_lt _ (by omega), rfl, hide_eq _, hide_eq _, hide_eq _, hide_eq _, by rw [dQq, dRq, hide_eq, hide_eq]; exact (Nat.div_add_mod _ _).symm, by rw [dRq, hide_eq]; exact Nat.mod_lt _ (by omega),
    hide_eq _, hide_eq _, by rw [dSq, dTq, hide_eq, hide_eq]; exact (Nat.div_add_mod _ _).symm, by rw [dTq, hide_eq]; exact Nat.mod_lt _ (by omega), hide_eq _, hide_eq _, hide_eq _⟩
theorem div_keyq (hi l1 L q1 R q0 R0 : Nat) (hU : hi * 1099511627776 + l1 = 4229431552 * q1 + R) (hUN : R * 4294967296 + L * 256 = 4229431552 * q0 + R0) :
    1099511627776 * (hi * 18446744073709551616 + (l1 * 16777216 + L)) = 1099511627776 * (16521217 * (q1 * 4294967296 + q0)) + R0 * 4294967296 := by
  have k1 := congrArg (· * 18446744073709551616) hU
  have k2 := congrArg (· * 4294967296) hUN
  simp only [Nat.add_mul] at k1 k2
  omega
end Go.Pl
namespace Go.Proofs.Ytpghmnpbfaichaa
open Go.Sx Go.Pl Go.RowKit
set_option linter.unusedVariables false
theorem wrap_subw (a b : Int) : IntKind.wrap .u64 (IntKind.wrap .u64 a - IntKind.wrap .u64 b) = IntKind.wrap .u64 (a - b) := by
  rw [wrap_u64, wrap_u64, wrap_u64, wrap_u64, ← Int.sub_emod]
theorem wrap_addw (a b : Int) : IntKind.wrap .u64 (IntKind.wrap .u64 a + b) = IntKind.wrap .u64 (a + b) := by
  rw [wrap_u64, wrap_u64, wrap_u64, Int.emod_add_emod]
theorem wrap_eq {z : Int} {n : Nat} (h : z = n) (hn : n < 18446744073709551616) : IntKind.wrap .u64 z = n := by
  rw [wrap_u64, h]
  omega
theorem wrap_z : IntKind.wrap .u64 ((0 : Nat) : Int) = 0 := rfl
theorem divp (hi lo : Nat) : (((xgo Try.prog X (bodyOf Try.f95) 135 L2 [([0,0,1,1,1,1,1,1,1,1,1,1,1,1,1,1],2), ([0,0,1,1,1,1,1,1,1,1,1,1,1,1,1,1,1,1,1,1],2)] 50 [.f, .f] ((.br [] .nil [.as 46 (.v (.int .u64 ((dAp hi lo : Nat) : Int))), .as 51 (.v (.int .u64 ((dUp hi lo : Nat) : Int))), .as 54 (.v (.int .u64 ((dVp hi lo : Nat) : Int))), .as 56 (.v (.int .u64 ((dCp hi lo : Nat) : Int))), .as 58 (.v (.int .u64 0)), .as 61 (.v (.int .u64 ((dQp hi lo : Nat) : Int))), .as 65 (.v (.int .u64 ((dEp hi lo : Nat) : Int))), .as 66 (.v (.int .u64 ((dRp hi lo : Nat) : Int))), .f, .f, .as 93 (.v (.int .u64 ((dNp hi lo : Nat) : Int))), .as 96 (.v (.int .u64 ((dSp hi lo : Nat) : Int))), .as 100 (.v (.int .u64 ((dFp hi lo : Nat) : Int))), .as 101 (.v (.int .u64 ((dTp hi lo : Nat) : Int))), .f, .f] .nil)) [.at []] ⟨argsTm 0 [.int .u64 (hi : Int), .int .u64 (lo : Int), .int .u64 16513537], []⟩ [] []).bind (ends Try.prog Try.f95.results.toList)).bind plainE) =
  some [EndP.mk [((↑hi : Int) == (0 : Int)) = true] [fun _ => false = false,
    fun _ => decide ((16513537 : Int) ≤ (↑hi : Int)) = false,
    fun _ => ((↑hi : Int) == (0 : Int)) = true,
    fun _ => ¬(16513537 : Int) = (0 : Int),
    fun _ => ¬(16513537 : Int) = (0 : Int)] (Res.v (Value.tuple (Array.mk [Value.int IntKind.u64 (IntKind.wrap IntKind.u64 (Int.tdiv (↑lo : Int) (16513537 : Int))), Value.int IntKind.u64 (Int.tmod (↑lo : Int) (16513537 : Int))]))),
  EndP.mk [((↑hi : Int) == (0 : Int)) = false] [fun _ => false = false,
    fun _ => decide ((16513537 : Int) ≤ (↑hi : Int)) = false,
    fun _ => ((↑hi : Int) == (0 : Int)) = false,
    fun _ => (16513537 : Int) = (16513537 : Int) ∨ (16513537 : Int) = (16521217 : Int),
    fun _ => ¬(40 : Int) < (0 : Int),
    fun _ => ¬(32 : Int) < (0 : Int),
    fun _ => ¬(40 : Int) < (0 : Int),
    fun _ => Value.int IntKind.u64 (IntKind.wrap IntKind.u64 ((↑hi : Int) * (1099511627776 : Int))) = Value.int IntKind.u64 (↑(dAp hi lo) : Int),
    fun _ => ¬(24 : Int) < (0 : Int),
    fun _ => Value.int IntKind.u64 (IntKind.wrap IntKind.u64 (↑(Int.toNat ((↑(dAp hi lo) : Int) % (18446744073709551616 : Int)) ||| Int.toNat (Int.fdiv (↑lo : Int) (16777216 : Int) % (18446744073709551616 : Int))) : Int)) = Value.int IntKind.u64 (↑(dUp hi lo) : Int),
    fun _ => ¬(40 : Int) < (0 : Int),
    fun _ => Value.int IntKind.u64 (IntKind.wrap IntKind.u64 ((↑lo : Int) * (1099511627776 : Int))) = Value.int IntKind.u64 (↑(dVp hi lo) : Int),
    fun _ => ¬(32 : Int) < (0 : Int),
    fun _ => Value.int IntKind.u64 (Int.fdiv (↑(dVp hi lo) : Int) (4294967296 : Int)) = Value.int IntKind.u64 (↑(dCp hi lo) : Int),
    fun _ => Value.int IntKind.u64 (IntKind.wrap IntKind.u64 (↑(Int.toNat ((↑(dVp hi lo) : Int) % (18446744073709551616 : Int)) &&& (4294967295 : Nat)) : Int)) = Value.int IntKind.u64 (0 : Int),
    fun _ => ¬(4227465472 : Int) = (0 : Int),
    fun _ => Value.int IntKind.u64 (IntKind.wrap IntKind.u64 (Int.tdiv (↑(dUp hi lo) : Int) (4227465472 : Int))) = Value.int IntKind.u64 (↑(dQp hi lo) : Int),
    fun _ => Value.int IntKind.u64 (IntKind.wrap IntKind.u64 ((↑(dQp hi lo) : Int) * (4227465472 : Int))) = Value.int IntKind.u64 (↑(dEp hi lo) : Int),
    fun _ => Value.int IntKind.u64 (IntKind.wrap IntKind.u64 ((↑(dUp hi lo) : Int) - (↑(dEp hi lo) : Int))) = Value.int IntKind.u64 (↑(dRp hi lo) : Int),
    fun _ => decide ((4294967296 : Int) ≤ (↑(dQp hi lo) : Int)) = false,
    fun _ => decide (IntKind.wrap IntKind.u64 (IntKind.wrap IntKind.u64 ((4294967296 : Int) * (↑(dRp hi lo) : Int)) + (↑(dCp hi lo) : Int)) < IntKind.wrap IntKind.u64 ((↑(dQp hi lo) : Int) * (0 : Int))) = false,
    fun _ => Value.int IntKind.u64 (IntKind.wrap IntKind.u64 (IntKind.wrap IntKind.u64 (IntKind.wrap IntKind.u64 ((↑(dUp hi lo) : Int) * (4294967296 : Int)) + (↑(dCp hi lo) : Int)) - IntKind.wrap IntKind.u64 ((↑(dQp hi lo) : Int) * (18156825947209203712 : Int)))) = Value.int IntKind.u64 (↑(dNp hi lo) : Int),
    fun _ => ¬(4227465472 : Int) = (0 : Int),
    fun _ => Value.int IntKind.u64 (IntKind.wrap IntKind.u64 (Int.tdiv (↑(dNp hi lo) : Int) (4227465472 : Int))) = Value.int IntKind.u64 (↑(dSp hi lo) : Int),
    fun _ => Value.int IntKind.u64 (IntKind.wrap IntKind.u64 ((↑(dSp hi lo) : Int) * (4227465472 : Int))) = Value.int IntKind.u64 (↑(dFp hi lo) : Int),
    fun _ => Value.int IntKind.u64 (IntKind.wrap IntKind.u64 ((↑(dNp hi lo) : Int) - (↑(dFp hi lo) : Int))) = Value.int IntKind.u64 (↑(dTp hi lo) : Int),
    fun _ => decide ((4294967296 : Int) ≤ (↑(dSp hi lo) : Int)) = false,
    fun _ => decide (IntKind.wrap IntKind.u64 (IntKind.wrap IntKind.u64 ((4294967296 : Int) * (↑(dTp hi lo) : Int)) + (0 : Int)) < IntKind.wrap IntKind.u64 ((↑(dSp hi lo) : Int) * (0 : Int))) = false,
    fun _ => ¬(40 : Int) < (0 : Int)] (Res.v (Value.tuple (Array.mk [Value.int IntKind.u64 (IntKind.wrap IntKind.u64 (IntKind.wrap IntKind.u64 ((↑(dQp hi lo) : Int) * (4294967296 : Int)) + (↑(dSp hi lo) : Int))), Value.int IntKind.u64 (Int.fdiv (IntKind.wrap IntKind.u64 (IntKind.wrap IntKind.u64 (IntKind.wrap IntKind.u64 ((↑(dNp hi lo) : Int) * (4294967296 : Int)) + (0 : Int)) - IntKind.wrap IntKind.u64 ((↑(dSp hi lo) : Int) * (18156825947209203712 : Int)))) (1099511627776 : Int))])))]
  := by kernel_rfl

theorem tdivp (n : Nat) : Int.tdiv (n : Int) (16513537 : Int) = ((n / 16513537 : Nat) : Int) := tdivNat n 16513537
theorem tmodp (n : Nat) : Int.tmod (n : Int) (16513537 : Int) = ((n % 16513537 : Nat) : Int) := tmodNat n 16513537
theorem divp_ok (hi lo : Nat) (hh : hi < 16513537) (hl : lo < 18446744073709551616) (w : World) : Calls Try.prog 95 [.int .u64 (hi : Int), .int .u64 (lo : Int), .int .u64 16513537].toArray w (fun E w' => ∃ v, E = .returned v ∧ Res.ok w w' (.v (.tuple #[.int .u64 ((dvQ 16513537 hi lo : Nat) : Int), .int .u64 ((dvR 16513537 hi lo : Nat) : Int)])) v ∧ Below w.heap.size w w') := by
  obtain ⟨l1, L, e0, bL, e1, eA, eU, eV, eC, eUQ, bR, eE, eN, eNS, bT, eF, eQ, eS⟩ := div_factsp hi lo
  refine con_end (calls_plain hm Try.func95 (by kernel_rfl) rfl rfl 50 _ _ (divp hi lo) ⟨fun has => ⟨?_, ?_⟩, ⟨fun has => ⟨?_, ?_⟩, trivial⟩⟩)
  · have h0 := has _ List.mem_cons_self
    simp only [hold_cons, hold_nil, and_true]
    exact ⟨fun _ _ => trivial, fun _ _ => decide_eq_false (by omega), fun _ _ => h0, fun _ _ => by omega, fun _ _ => by omega⟩
  · have h0 := has _ List.mem_cons_self
    have hz : hi = 0 := by
      simp only [beq_iff_eq] at h0
      omega
    subst hz
    rw [tdivp, tmodp, wrap_u64, dvQ, dvR, hide_eq, hide_eq]
    exact tup2 (by omega) (by omega)
  all_goals
    have h0 := has _ List.mem_cons_self
    clear has
    have tq : ∀ n : Nat, Int.tdiv (n : Int) (4227465472 : Int) = ((n / 4227465472 : Nat) : Int) := fun n => tdivNat n 4227465472
    have fq : Int.fdiv (lo : Int) (16777216 : Int) = ((l1 : Nat) : Int) := by rw [← e1]; exact fdiv_nat lo 16777216 (by omega)
    have fv : ∀ n : Nat, Int.fdiv (n : Int) (4294967296 : Int) = ((n / 4294967296 : Nat) : Int) := fdivN
    have fp : ∀ n : Nat, Int.fdiv (n : Int) (1099511627776 : Int) = ((n / 1099511627776 : Nat) : Int) := fun n => fdiv_nat n 1099511627776 (by omega)
    generalize dAp hi lo = A at *
    generalize dUp hi lo = U at *
    generalize dVp hi lo = V at *
    generalize dCp hi lo = C at *
    generalize dQp hi lo = Q at *
    generalize dEp hi lo = E at *
    generalize dRp hi lo = R at *
    generalize dNp hi lo = N at *
    generalize dSp hi lo = S at *
    generalize dFp hi lo = F at *
    generalize dTp hi lo = T at *
    have b1 : l1 < 1099511627776 := by omega
    clear e1
  · have t1 := toNat_mod A (by omega)
    have t2 := toNat_mod l1 (by omega)
    have t3 := toNat_mod V (by omega)
    have ho : A ||| l1 = U := by rw [eA, eU]; exact or_at 40 hi l1 b1
    have ha : V &&& 4294967295 = 0 := and32 _ (by omega)
    have hV : IntKind.wrap .u64 ((lo : Int) * (1099511627776 : Int)) = (V : Int) := by
      have h9 : (lo : Int) * (1099511627776 : Int) = (l1 : Int) * 18446744073709551616 + (V : Int) := by omega
      rw [wrap_u64, h9]
      omega
    simp only [hold_cons, hold_nil, and_true, hV, tq, fq, fv, t1, t2, t3, ho, ha, wrap_addw, wrap_subw, wrap_z, ← eQ, ← eS]
    have bQ : Q < 4294967296 := by omega
    have bC : C < 4294967296 := by omega
    have bN : N < 18156825947209203712 := by omega
    have bS : S < 4294967296 := by omega
    clear eQ eS ho ha t1 t2 t3 tq fq fv fp
    repeat' apply And.intro
    all_goals (intro _ _; first | exact True.intro | exact h0 | exact int_eq (wrap_eq (by omega) (by omega)) | exact int_eq (by omega) | (rw [Int.mul_zero, wrap_u64, wrap_u64]; exact decide_eq_false (by omega)) | exact decide_eq_false (by omega) | (simp; done) | omega)
  · have hk := div_keyp hi l1 L Q R S T (by omega) (by omega)
    obtain ⟨g1, g2⟩ := div_core 1099511627776 16513537 (Q * 4294967296 + S) _ (T * 4294967296) (by omega) (by omega) hk (by omega)
    have bQ : Q < 4294967296 := by omega
    have bC : C < 4294967296 := by omega
    have bS : S < 4294967296 := by omega
    have e9 : IntKind.wrap .u64 (IntKind.wrap .u64 (IntKind.wrap .u64 ((N : Int) * (4294967296 : Int)) + (0 : Int)) - IntKind.wrap .u64 ((S : Int) * (18156825947209203712 : Int))) = ((T * 4294967296 : Nat) : Int) := by
      rw [wrap_addw, wrap_subw]
      exact wrap_eq (by omega) (by omega)
    rw [dvQ, dvR, hide_eq, hide_eq, e9, fp, g2, e0, g1]
    exact tup2 (by rw [wrap_addw]; exact wrap_eq (by omega) (by omega)) rfl
theorem divq (hi lo : Nat) : (((xgo Try.prog X (bodyOf Try.f95) 135 L2 [([0,0,1,1,1,1,1,1,1,1,1,1,1,1,1,1],2), ([0,0,1,1,1,1,1,1,1,1,1,1,1,1,1,1,1,1,1,1],2)] 50 [.f, .f] ((.br [] .nil [.as 46 (.v (.int .u64 ((dAq hi lo : Nat) : Int))), .as 51 (.v (.int .u64 ((dUq hi lo : Nat) : Int))), .as 54 (.v (.int .u64 ((dVq hi lo : Nat) : Int))), .as 56 (.v (.int .u64 ((dCq hi lo : Nat) : Int))), .as 58 (.v (.int .u64 0)), .as 61 (.v (.int .u64 ((dQq hi lo : Nat) : Int))), .as 65 (.v (.int .u64 ((dEq hi lo : Nat) : Int))), .as 66 (.v (.int .u64 ((dRq hi lo : Nat) : Int))), .f, .f, .as 93 (.v (.int .u64 ((dNq hi lo : Nat) : Int))), .as 96 (.v (.int .u64 ((dSq hi lo : Nat) : Int))), .as 100 (.v (.int .u64 ((dFq hi lo : Nat) : Int))), .as 101 (.v (.int .u64 ((dTq hi lo : Nat) : Int))), .f, .f] .nil)) [.at []] ⟨argsTm 0 [.int .u64 (hi : Int), .int .u64 (lo : Int), .int .u64 16521217], []⟩ [] []).bind (ends Try.prog Try.f95.results.toList)).bind plainE) =
  some [EndP.mk [((↑hi : Int) == (0 : Int)) = true] [fun _ => false = false,
    fun _ => decide ((16521217 : Int) ≤ (↑hi : Int)) = false,
    fun _ => ((↑hi : Int) == (0 : Int)) = true,
    fun _ => ¬(16521217 : Int) = (0 : Int),
    fun _ => ¬(16521217 : Int) = (0 : Int)] (Res.v (Value.tuple (Array.mk [Value.int IntKind.u64 (IntKind.wrap IntKind.u64 (Int.tdiv (↑lo : Int) (16521217 : Int))), Value.int IntKind.u64 (Int.tmod (↑lo : Int) (16521217 : Int))]))),
  EndP.mk [((↑hi : Int) == (0 : Int)) = false] [fun _ => false = false,
    fun _ => decide ((16521217 : Int) ≤ (↑hi : Int)) = false,
    fun _ => ((↑hi : Int) == (0 : Int)) = false,
    fun _ => (16521217 : Int) = (16513537 : Int) ∨ (16521217 : Int) = (16521217 : Int),
    fun _ => ¬(40 : Int) < (0 : Int),
    fun _ => ¬(32 : Int) < (0 : Int),
    fun _ => ¬(40 : Int) < (0 : Int),
    fun _ => Value.int IntKind.u64 (IntKind.wrap IntKind.u64 ((↑hi : Int) * (1099511627776 : Int))) = Value.int IntKind.u64 (↑(dAq hi lo) : Int),
    fun _ => ¬(24 : Int) < (0 : Int),
    fun _ => Value.int IntKind.u64 (IntKind.wrap IntKind.u64 (↑(Int.toNat ((↑(dAq hi lo) : Int) % (18446744073709551616 : Int)) ||| Int.toNat (Int.fdiv (↑lo : Int) (16777216 : Int) % (18446744073709551616 : Int))) : Int)) = Value.int IntKind.u64 (↑(dUq hi lo) : Int),
    fun _ => ¬(40 : Int) < (0 : Int),
    fun _ => Value.int IntKind.u64 (IntKind.wrap IntKind.u64 ((↑lo : Int) * (1099511627776 : Int))) = Value.int IntKind.u64 (↑(dVq hi lo) : Int),
    fun _ => ¬(32 : Int) < (0 : Int),
    fun _ => Value.int IntKind.u64 (Int.fdiv (↑(dVq hi lo) : Int) (4294967296 : Int)) = Value.int IntKind.u64 (↑(dCq hi lo) : Int),
    fun _ => Value.int IntKind.u64 (IntKind.wrap IntKind.u64 (↑(Int.toNat ((↑(dVq hi lo) : Int) % (18446744073709551616 : Int)) &&& (4294967295 : Nat)) : Int)) = Value.int IntKind.u64 (0 : Int),
    fun _ => ¬(4229431552 : Int) = (0 : Int),
    fun _ => Value.int IntKind.u64 (IntKind.wrap IntKind.u64 (Int.tdiv (↑(dUq hi lo) : Int) (4229431552 : Int))) = Value.int IntKind.u64 (↑(dQq hi lo) : Int),
    fun _ => Value.int IntKind.u64 (IntKind.wrap IntKind.u64 ((↑(dQq hi lo) : Int) * (4229431552 : Int))) = Value.int IntKind.u64 (↑(dEq hi lo) : Int),
    fun _ => Value.int IntKind.u64 (IntKind.wrap IntKind.u64 ((↑(dUq hi lo) : Int) - (↑(dEq hi lo) : Int))) = Value.int IntKind.u64 (↑(dRq hi lo) : Int),
    fun _ => decide ((4294967296 : Int) ≤ (↑(dQq hi lo) : Int)) = false,
    fun _ => decide (IntKind.wrap IntKind.u64 (IntKind.wrap IntKind.u64 ((4294967296 : Int) * (↑(dRq hi lo) : Int)) + (↑(dCq hi lo) : Int)) < IntKind.wrap IntKind.u64 ((↑(dQq hi lo) : Int) * (0 : Int))) = false,
    fun _ => Value.int IntKind.u64 (IntKind.wrap IntKind.u64 (IntKind.wrap IntKind.u64 (IntKind.wrap IntKind.u64 ((↑(dUq hi lo) : Int) * (4294967296 : Int)) + (↑(dCq hi lo) : Int)) - IntKind.wrap IntKind.u64 ((↑(dQq hi lo) : Int) * (18165270196510523392 : Int)))) = Value.int IntKind.u64 (↑(dNq hi lo) : Int),
    fun _ => ¬(4229431552 : Int) = (0 : Int),
    fun _ => Value.int IntKind.u64 (IntKind.wrap IntKind.u64 (Int.tdiv (↑(dNq hi lo) : Int) (4229431552 : Int))) = Value.int IntKind.u64 (↑(dSq hi lo) : Int),
    fun _ => Value.int IntKind.u64 (IntKind.wrap IntKind.u64 ((↑(dSq hi lo) : Int) * (4229431552 : Int))) = Value.int IntKind.u64 (↑(dFq hi lo) : Int),
    fun _ => Value.int IntKind.u64 (IntKind.wrap IntKind.u64 ((↑(dNq hi lo) : Int) - (↑(dFq hi lo) : Int))) = Value.int IntKind.u64 (↑(dTq hi lo) : Int),
    fun _ => decide ((4294967296 : Int) ≤ (↑(dSq hi lo) : Int)) = false,
    fun _ => decide (IntKind.wrap IntKind.u64 (IntKind.wrap IntKind.u64 ((4294967296 : Int) * (↑(dTq hi lo) : Int)) + (0 : Int)) < IntKind.wrap IntKind.u64 ((↑(dSq hi lo) : Int) * (0 : Int))) = false,
    fun _ => ¬(40 : Int) < (0 : Int)] (Res.v (Value.tuple (Array.mk [Value.int IntKind.u64 (IntKind.wrap IntKind.u64 (IntKind.wrap IntKind.u64 ((↑(dQq hi lo) : Int) * (4294967296 : Int)) + (↑(dSq hi lo) : Int))), Value.int IntKind.u64 (Int.fdiv (IntKind.wrap IntKind.u64 (IntKind.wrap IntKind.u64 (IntKind.wrap IntKind.u64 ((↑(dNq hi lo) : Int) * (4294967296 : Int)) + (0 : Int)) - IntKind.wrap IntKind.u64 ((↑(dSq hi lo) : Int) * (18165270196510523392 : Int)))) (1099511627776 : Int))])))]
  := by kernel_rfl

theorem tdivq (n : Nat) : Int.tdiv (n : Int) (16521217 : Int) = ((n / 16521217 : Nat) : Int) := tdivNat n 16521217
theorem tmodq (n : Nat) : Int.tmod (n : Int) (16521217 : Int) = ((n % 16521217 : Nat) : Int) := tmodNat n 16521217
theorem divq_ok (hi lo : Nat) (hh : hi < 16521217) (hl : lo < 18446744073709551616) (w : World) : Calls Try.prog 95 [.int .u64 (hi : Int), .int .u64 (lo : Int), .int .u64 16521217].toArray w (fun E w' => ∃ v, E = .returned v ∧ Res.ok w w' (.v (.tuple #[.int .u64 ((dvQ 16521217 hi lo : Nat) : Int), .int .u64 ((dvR 16521217 hi lo : Nat) : Int)])) v ∧ Below w.heap.size w w') := by
  obtain ⟨l1, L, e0, bL, e1, eA, eU, eV, eC, eUQ, bR, eE, eN, eNS, bT, eF, eQ, eS⟩ := div_factsq hi lo
  refine con_end (calls_plain hm Try.func95 (by kernel_rfl) rfl rfl 50 _ _ (divq hi lo) ⟨fun has => ⟨?_, ?_⟩, ⟨fun has => ⟨?_, ?_⟩, trivial⟩⟩)
  · have h0 := has _ List.mem_cons_self
    simp only [hold_cons, hold_nil, and_true]
    exact ⟨fun _ _ => trivial, fun _ _ => decide_eq_false (by omega), fun _ _ => h0, fun _ _ => by omega, fun _ _ => by omega⟩
  · have h0 := has _ List.mem_cons_self
    have hz : hi = 0 := by
      simp only [beq_iff_eq] at h0
      omega
    subst hz
    rw [tdivq, tmodq, wrap_u64, dvQ, dvR, hide_eq, hide_eq]
    exact tup2 (by omega) (by omega)
  all_goals
    have h0 := has _ List.mem_cons_self
    clear has
    have tq : ∀ n : Nat, Int.tdiv (n : Int) (4229431552 : Int) = ((n / 4229431552 : Nat) : Int) := fun n => tdivNat n 4229431552
    have fq : Int.fdiv (lo : Int) (16777216 : Int) = ((l1 : Nat) : Int) := by rw [← e1]; exact fdiv_nat lo 16777216 (by omega)
    have fv : ∀ n : Nat, Int.fdiv (n : Int) (4294967296 : Int) = ((n / 4294967296 : Nat) : Int) := fdivN
    have fp : ∀ n : Nat, Int.fdiv (n : Int) (1099511627776 : Int) = ((n / 1099511627776 : Nat) : Int) := fun n => fdiv_nat n 1099511627776 (by omega)
    generalize dAq hi lo = A at *
    generalize dUq hi lo = U at *
    generalize dVq hi lo = V at *
    generalize dCq hi lo = C at *
    generalize dQq hi lo = Q at *
    generalize dEq hi lo = E at *
    generalize dRq hi lo = R at *
    generalize dNq hi lo = N at *
    generalize dSq hi lo = S at *
    generalize dFq hi lo = F at *
    generalize dTq hi lo = T at *
    have b1 : l1 < 1099511627776 := by omega
    clear e1
  · have t1 := toNat_mod A (by omega)
    have t2 := toNat_mod l1 (by omega)
    have t3 := toNat_mod V (by omega)
    have ho : A ||| l1 = U := by rw [eA, eU]; exact or_at 40 hi l1 b1
    have ha : V &&& 4294967295 = 0 := and32 _ (by omega)
    have hV : IntKind.wrap .u64 ((lo : Int) * (1099511627776 : Int)) = (V : Int) := by
      have h9 : (lo : Int) * (1099511627776 : Int) = (l1 : Int) * 18446744073709551616 + (V : Int) := by omega
      rw [wrap_u64, h9]
      omega
    simp only [hold_cons, hold_nil, and_true, hV, tq, fq, fv, t1, t2, t3, ho, ha, wrap_addw, wrap_subw, wrap_z, ← eQ, ← eS]
    have bQ : Q < 4294967296 := by omega
    have bC : C < 4294967296 := by omega
    have bN : N < 18165270196510523392 := by omega
    have bS : S < 4294967296 := by omega
    clear eQ eS ho ha t1 t2 t3 tq fq fv fp
    repeat' apply And.intro
    all_goals (intro _ _; first | exact True.intro | exact h0 | exact int_eq (wrap_eq (by omega) (by omega)) | exact int_eq (by omega) | (rw [Int.mul_zero, wrap_u64, wrap_u64]; exact decide_eq_false (by omega)) | exact decide_eq_false (by omega) | (simp; done) | omega)
  · have hk := div_keyq hi l1 L Q R S T (by omega) (by omega)
    obtain ⟨g1, g2⟩ := div_core 1099511627776 16521217 (Q * 4294967296 + S) _ (T * 4294967296) (by omega) (by omega) hk (by omega)
    have bQ : Q < 4294967296 := by omega
    have bC : C < 4294967296 := by omega
    have bS : S < 4294967296 := by omega
    have e9 : IntKind.wrap .u64 (IntKind.wrap .u64 (IntKind.wrap .u64 ((N : Int) * (4294967296 : Int)) + (0 : Int)) - IntKind.wrap .u64 ((S : Int) * (18165270196510523392 : Int))) = ((T * 4294967296 : Nat) : Int) := by
      rw [wrap_addw, wrap_subw]
      exact wrap_eq (by omega) (by omega)
    rw [dvQ, dvR, hide_eq, hide_eq, e9, fp, g2, e0, g1]
    exact tup2 (by rw [wrap_addw]; exact wrap_eq (by omega) (by omega)) rfl
noncomputable def gDiv : List RV → Option (Res × Prop)
  | [.v x, .v z, .v (.int .u64 y)] => match unU x, unU z with
    | some hi, some lo => some (.v (.tuple #[.int .u64 ((dvQ y.toNat hi lo : Nat) : Int), .int .u64 ((dvR y.toNat hi lo : Nat) : Int)]), x = .int .u64 (hi : Int) ∧ z = .int .u64 (lo : Int) ∧ (y = 16513537 ∨ y = 16521217) ∧ hi < y.toNat ∧ lo < 18446744073709551616)
    | _, _ => none
  | _ => none
theorem gDiv_ok (rvs : List RV) (r : Res) (p : Prop) (vs : List Value) (w : World) (hg : gDiv rvs = some (r, p)) (hp : p) (hv : RVs (wmem w) rvs vs) : Calls Try.prog 95 vs.toArray w (fun E w' => ∃ v, E = .returned v ∧ r.ok w w' v ∧ Below w.heap.size w w') := by
  unfold gDiv at hg
  split at hg
  · rename_i x z y
    split at hg
    · simp only [Option.some.injEq, Prod.mk.injEq] at hg
      obtain ⟨rfl, rfl⟩ := hg
      obtain ⟨h1, h2, h4, h5, h6⟩ := hp
      rw [rvs3 hv, h1, h2]
      rcases h4 with rfl | rfl
      · exact divp_ok _ _ h5 h6 w
      · exact divq_ok _ _ h5 h6 w
    · cases hg
  · cases hg
noncomputable def L3 : Con Try.prog := L2.add 95 gDiv gDiv_ok
end Go.Proofs.Ytpghmnpbfaichaa
