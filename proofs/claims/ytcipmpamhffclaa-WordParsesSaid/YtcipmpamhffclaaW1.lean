/- Sums and differences of words: what the program's functions answer. -/
import Derived.Test.YtcipmpamhffclaaBase
namespace Go.Proofs.Ytcipmpamhffclaa
open Go.Sx Go.Pl Go.RowKit
theorem run12 (a b : Nat) : (((xgo Try.prog X (bodyOf Try.f12) 29 C0 [([0, 1, 0, 1, 1, 1],5)] 50 [Dec.t, Dec.t, Dec.t, Dec.t, Dec.f] Tree.nil [.at []] ⟨argsTm 0 [el a, el b], []⟩ [] []).bind (ends Try.prog Try.f12.results.toList)).bind plainE) =
  some
  [EndP.mk []
      [fun _ => true = true, fun _ => (0 : Int) ≤ (0 : Int) ∧ (0 : Int) < (4 : Int), fun _ =>
        (0 : Int) ≤ (0 : Int) ∧ (0 : Int) < (4 : Int), fun _ =>
        (0 : Int) ≤ (↑(limb a (0 : Nat)) : Int) ∧
          (0 : Int) ≤ (↑(limb b (0 : Nat)) : Int) ∧ (0 : Int) ≤ (0 : Int) ∧ (0 : Nat) ≤ (1 : Nat),
        fun _ => (0 : Int) ≤ (0 : Int) ∧ (0 : Int) < (4 : Int), fun _ => (1 : Nat) ≤ (4 : Nat), fun _ => true = true,
        fun _ => (0 : Int) ≤ (1 : Int) ∧ (1 : Int) < (4 : Int), fun _ => (0 : Int) ≤ (1 : Int) ∧ (1 : Int) < (4 : Int),
        fun _ =>
        (0 : Int) ≤ (↑(limb a (1 : Nat)) : Int) ∧
          (0 : Int) ≤ (↑(limb b (1 : Nat)) : Int) ∧
            (0 : Int) ≤
                (↑(adHi (Int.toNat (↑(limb a (0 : Nat)) : Int)) (Int.toNat (↑(limb b (0 : Nat)) : Int)) (0 : Nat)) :
                  Int) ∧
              Int.toNat
                  (↑(adHi (Int.toNat (↑(limb a (0 : Nat)) : Int)) (Int.toNat (↑(limb b (0 : Nat)) : Int)) (0 : Nat)) :
                    Int) ≤
                (1 : Nat),
        fun _ => (0 : Int) ≤ (1 : Int) ∧ (1 : Int) < (4 : Int), fun _ => (2 : Nat) ≤ (4 : Nat), fun _ => true = true,
        fun _ => (0 : Int) ≤ (2 : Int) ∧ (2 : Int) < (4 : Int), fun _ => (0 : Int) ≤ (2 : Int) ∧ (2 : Int) < (4 : Int),
        fun _ =>
        (0 : Int) ≤ (↑(limb a (2 : Nat)) : Int) ∧
          (0 : Int) ≤ (↑(limb b (2 : Nat)) : Int) ∧
            (0 : Int) ≤
                (↑(adHi (Int.toNat (↑(limb a (1 : Nat)) : Int)) (Int.toNat (↑(limb b (1 : Nat)) : Int))
                      (Int.toNat
                        (↑(adHi (Int.toNat (↑(limb a (0 : Nat)) : Int)) (Int.toNat (↑(limb b (0 : Nat)) : Int))
                              (0 : Nat)) :
                          Int))) :
                  Int) ∧
              Int.toNat
                  (↑(adHi (Int.toNat (↑(limb a (1 : Nat)) : Int)) (Int.toNat (↑(limb b (1 : Nat)) : Int))
                        (Int.toNat
                          (↑(adHi (Int.toNat (↑(limb a (0 : Nat)) : Int)) (Int.toNat (↑(limb b (0 : Nat)) : Int))
                                (0 : Nat)) :
                            Int))) :
                    Int) ≤
                (1 : Nat),
        fun _ => (0 : Int) ≤ (2 : Int) ∧ (2 : Int) < (4 : Int), fun _ => (3 : Nat) ≤ (4 : Nat), fun _ => true = true,
        fun _ => (0 : Int) ≤ (3 : Int) ∧ (3 : Int) < (4 : Int), fun _ => (0 : Int) ≤ (3 : Int) ∧ (3 : Int) < (4 : Int),
        fun _ =>
        (0 : Int) ≤ (↑(limb a (3 : Nat)) : Int) ∧
          (0 : Int) ≤ (↑(limb b (3 : Nat)) : Int) ∧
            (0 : Int) ≤
                (↑(adHi (Int.toNat (↑(limb a (2 : Nat)) : Int)) (Int.toNat (↑(limb b (2 : Nat)) : Int))
                      (Int.toNat
                        (↑(adHi (Int.toNat (↑(limb a (1 : Nat)) : Int)) (Int.toNat (↑(limb b (1 : Nat)) : Int))
                              (Int.toNat
                                (↑(adHi (Int.toNat (↑(limb a (0 : Nat)) : Int)) (Int.toNat (↑(limb b (0 : Nat)) : Int))
                                      (0 : Nat)) :
                                  Int))) :
                          Int))) :
                  Int) ∧
              Int.toNat
                  (↑(adHi (Int.toNat (↑(limb a (2 : Nat)) : Int)) (Int.toNat (↑(limb b (2 : Nat)) : Int))
                        (Int.toNat
                          (↑(adHi (Int.toNat (↑(limb a (1 : Nat)) : Int)) (Int.toNat (↑(limb b (1 : Nat)) : Int))
                                (Int.toNat
                                  (↑(adHi (Int.toNat (↑(limb a (0 : Nat)) : Int))
                                        (Int.toNat (↑(limb b (0 : Nat)) : Int)) (0 : Nat)) :
                                    Int))) :
                            Int))) :
                    Int) ≤
                (1 : Nat),
        fun _ => (0 : Int) ≤ (3 : Int) ∧ (3 : Int) < (4 : Int), fun _ => (4 : Nat) ≤ (4 : Nat), fun _ => false = false,
        fun _ => (4 : Nat) ≤ (4 : Nat)]
      (Res.v
        (Value.tuple
          (Array.mk
            [Value.agg
                (Array.mk
                  [Value.int IntKind.u64
                      (↑(adLo (Int.toNat (↑(limb a (0 : Nat)) : Int)) (Int.toNat (↑(limb b (0 : Nat)) : Int))
                            (0 : Nat)) :
                        Int),
                    Value.int IntKind.u64
                      (↑(adLo (Int.toNat (↑(limb a (1 : Nat)) : Int)) (Int.toNat (↑(limb b (1 : Nat)) : Int))
                            (Int.toNat
                              (↑(adHi (Int.toNat (↑(limb a (0 : Nat)) : Int)) (Int.toNat (↑(limb b (0 : Nat)) : Int))
                                    (0 : Nat)) :
                                Int))) :
                        Int),
                    Value.int IntKind.u64
                      (↑(adLo (Int.toNat (↑(limb a (2 : Nat)) : Int)) (Int.toNat (↑(limb b (2 : Nat)) : Int))
                            (Int.toNat
                              (↑(adHi (Int.toNat (↑(limb a (1 : Nat)) : Int)) (Int.toNat (↑(limb b (1 : Nat)) : Int))
                                    (Int.toNat
                                      (↑(adHi (Int.toNat (↑(limb a (0 : Nat)) : Int))
                                            (Int.toNat (↑(limb b (0 : Nat)) : Int)) (0 : Nat)) :
                                        Int))) :
                                Int))) :
                        Int),
                    Value.int IntKind.u64
                      (↑(adLo (Int.toNat (↑(limb a (3 : Nat)) : Int)) (Int.toNat (↑(limb b (3 : Nat)) : Int))
                            (Int.toNat
                              (↑(adHi (Int.toNat (↑(limb a (2 : Nat)) : Int)) (Int.toNat (↑(limb b (2 : Nat)) : Int))
                                    (Int.toNat
                                      (↑(adHi (Int.toNat (↑(limb a (1 : Nat)) : Int))
                                            (Int.toNat (↑(limb b (1 : Nat)) : Int))
                                            (Int.toNat
                                              (↑(adHi (Int.toNat (↑(limb a (0 : Nat)) : Int))
                                                    (Int.toNat (↑(limb b (0 : Nat)) : Int)) (0 : Nat)) :
                                                Int))) :
                                        Int))) :
                                Int))) :
                        Int)]),
              Value.bool
                !(↑(adHi (Int.toNat (↑(limb a (3 : Nat)) : Int)) (Int.toNat (↑(limb b (3 : Nat)) : Int))
                          (Int.toNat
                            (↑(adHi (Int.toNat (↑(limb a (2 : Nat)) : Int)) (Int.toNat (↑(limb b (2 : Nat)) : Int))
                                  (Int.toNat
                                    (↑(adHi (Int.toNat (↑(limb a (1 : Nat)) : Int))
                                          (Int.toNat (↑(limb b (1 : Nat)) : Int))
                                          (Int.toNat
                                            (↑(adHi (Int.toNat (↑(limb a (0 : Nat)) : Int))
                                                  (Int.toNat (↑(limb b (0 : Nat)) : Int)) (0 : Nat)) :
                                              Int))) :
                                      Int))) :
                              Int))) :
                      Int) ==
                    (0 : Int)])))]
 := by kernel_rfl

theorem run14 (a b : Nat) : (((xgo Try.prog X (bodyOf Try.f14) 29 C0 [([0, 1, 0, 1, 1, 1],5)] 50 [Dec.t, Dec.t, Dec.t, Dec.t, Dec.f] Tree.nil [.at []] ⟨argsTm 0 [el a, el b], []⟩ [] []).bind (ends Try.prog Try.f14.results.toList)).bind plainE) =
  some
  [EndP.mk []
      [fun _ => true = true, fun _ => (0 : Int) ≤ (0 : Int) ∧ (0 : Int) < (4 : Int), fun _ =>
        (0 : Int) ≤ (0 : Int) ∧ (0 : Int) < (4 : Int), fun _ =>
        (0 : Int) ≤ (↑(limb a (0 : Nat)) : Int) ∧
          (0 : Int) ≤ (↑(limb b (0 : Nat)) : Int) ∧ (0 : Int) ≤ (0 : Int) ∧ (0 : Nat) ≤ (1 : Nat),
        fun _ => (0 : Int) ≤ (0 : Int) ∧ (0 : Int) < (4 : Int), fun _ => (1 : Nat) ≤ (4 : Nat), fun _ => true = true,
        fun _ => (0 : Int) ≤ (1 : Int) ∧ (1 : Int) < (4 : Int), fun _ => (0 : Int) ≤ (1 : Int) ∧ (1 : Int) < (4 : Int),
        fun _ =>
        (0 : Int) ≤ (↑(limb a (1 : Nat)) : Int) ∧
          (0 : Int) ≤ (↑(limb b (1 : Nat)) : Int) ∧
            (0 : Int) ≤
                (↑(sbHi (Int.toNat (↑(limb a (0 : Nat)) : Int)) (Int.toNat (↑(limb b (0 : Nat)) : Int)) (0 : Nat)) :
                  Int) ∧
              Int.toNat
                  (↑(sbHi (Int.toNat (↑(limb a (0 : Nat)) : Int)) (Int.toNat (↑(limb b (0 : Nat)) : Int)) (0 : Nat)) :
                    Int) ≤
                (1 : Nat),
        fun _ => (0 : Int) ≤ (1 : Int) ∧ (1 : Int) < (4 : Int), fun _ => (2 : Nat) ≤ (4 : Nat), fun _ => true = true,
        fun _ => (0 : Int) ≤ (2 : Int) ∧ (2 : Int) < (4 : Int), fun _ => (0 : Int) ≤ (2 : Int) ∧ (2 : Int) < (4 : Int),
        fun _ =>
        (0 : Int) ≤ (↑(limb a (2 : Nat)) : Int) ∧
          (0 : Int) ≤ (↑(limb b (2 : Nat)) : Int) ∧
            (0 : Int) ≤
                (↑(sbHi (Int.toNat (↑(limb a (1 : Nat)) : Int)) (Int.toNat (↑(limb b (1 : Nat)) : Int))
                      (Int.toNat
                        (↑(sbHi (Int.toNat (↑(limb a (0 : Nat)) : Int)) (Int.toNat (↑(limb b (0 : Nat)) : Int))
                              (0 : Nat)) :
                          Int))) :
                  Int) ∧
              Int.toNat
                  (↑(sbHi (Int.toNat (↑(limb a (1 : Nat)) : Int)) (Int.toNat (↑(limb b (1 : Nat)) : Int))
                        (Int.toNat
                          (↑(sbHi (Int.toNat (↑(limb a (0 : Nat)) : Int)) (Int.toNat (↑(limb b (0 : Nat)) : Int))
                                (0 : Nat)) :
                            Int))) :
                    Int) ≤
                (1 : Nat),
        fun _ => (0 : Int) ≤ (2 : Int) ∧ (2 : Int) < (4 : Int), fun _ => (3 : Nat) ≤ (4 : Nat), fun _ => true = true,
        fun _ => (0 : Int) ≤ (3 : Int) ∧ (3 : Int) < (4 : Int), fun _ => (0 : Int) ≤ (3 : Int) ∧ (3 : Int) < (4 : Int),
        fun _ =>
        (0 : Int) ≤ (↑(limb a (3 : Nat)) : Int) ∧
          (0 : Int) ≤ (↑(limb b (3 : Nat)) : Int) ∧
            (0 : Int) ≤
                (↑(sbHi (Int.toNat (↑(limb a (2 : Nat)) : Int)) (Int.toNat (↑(limb b (2 : Nat)) : Int))
                      (Int.toNat
                        (↑(sbHi (Int.toNat (↑(limb a (1 : Nat)) : Int)) (Int.toNat (↑(limb b (1 : Nat)) : Int))
                              (Int.toNat
                                (↑(sbHi (Int.toNat (↑(limb a (0 : Nat)) : Int)) (Int.toNat (↑(limb b (0 : Nat)) : Int))
                                      (0 : Nat)) :
                                  Int))) :
                          Int))) :
                  Int) ∧
              Int.toNat
                  (↑(sbHi (Int.toNat (↑(limb a (2 : Nat)) : Int)) (Int.toNat (↑(limb b (2 : Nat)) : Int))
                        (Int.toNat
                          (↑(sbHi (Int.toNat (↑(limb a (1 : Nat)) : Int)) (Int.toNat (↑(limb b (1 : Nat)) : Int))
                                (Int.toNat
                                  (↑(sbHi (Int.toNat (↑(limb a (0 : Nat)) : Int))
                                        (Int.toNat (↑(limb b (0 : Nat)) : Int)) (0 : Nat)) :
                                    Int))) :
                            Int))) :
                    Int) ≤
                (1 : Nat),
        fun _ => (0 : Int) ≤ (3 : Int) ∧ (3 : Int) < (4 : Int), fun _ => (4 : Nat) ≤ (4 : Nat), fun _ => false = false,
        fun _ => (4 : Nat) ≤ (4 : Nat)]
      (Res.v
        (Value.tuple
          (Array.mk
            [Value.agg
                (Array.mk
                  [Value.int IntKind.u64
                      (↑(sbLo (Int.toNat (↑(limb a (0 : Nat)) : Int)) (Int.toNat (↑(limb b (0 : Nat)) : Int))
                            (0 : Nat)) :
                        Int),
                    Value.int IntKind.u64
                      (↑(sbLo (Int.toNat (↑(limb a (1 : Nat)) : Int)) (Int.toNat (↑(limb b (1 : Nat)) : Int))
                            (Int.toNat
                              (↑(sbHi (Int.toNat (↑(limb a (0 : Nat)) : Int)) (Int.toNat (↑(limb b (0 : Nat)) : Int))
                                    (0 : Nat)) :
                                Int))) :
                        Int),
                    Value.int IntKind.u64
                      (↑(sbLo (Int.toNat (↑(limb a (2 : Nat)) : Int)) (Int.toNat (↑(limb b (2 : Nat)) : Int))
                            (Int.toNat
                              (↑(sbHi (Int.toNat (↑(limb a (1 : Nat)) : Int)) (Int.toNat (↑(limb b (1 : Nat)) : Int))
                                    (Int.toNat
                                      (↑(sbHi (Int.toNat (↑(limb a (0 : Nat)) : Int))
                                            (Int.toNat (↑(limb b (0 : Nat)) : Int)) (0 : Nat)) :
                                        Int))) :
                                Int))) :
                        Int),
                    Value.int IntKind.u64
                      (↑(sbLo (Int.toNat (↑(limb a (3 : Nat)) : Int)) (Int.toNat (↑(limb b (3 : Nat)) : Int))
                            (Int.toNat
                              (↑(sbHi (Int.toNat (↑(limb a (2 : Nat)) : Int)) (Int.toNat (↑(limb b (2 : Nat)) : Int))
                                    (Int.toNat
                                      (↑(sbHi (Int.toNat (↑(limb a (1 : Nat)) : Int))
                                            (Int.toNat (↑(limb b (1 : Nat)) : Int))
                                            (Int.toNat
                                              (↑(sbHi (Int.toNat (↑(limb a (0 : Nat)) : Int))
                                                    (Int.toNat (↑(limb b (0 : Nat)) : Int)) (0 : Nat)) :
                                                Int))) :
                                        Int))) :
                                Int))) :
                        Int)]),
              Value.bool
                !(↑(sbHi (Int.toNat (↑(limb a (3 : Nat)) : Int)) (Int.toNat (↑(limb b (3 : Nat)) : Int))
                          (Int.toNat
                            (↑(sbHi (Int.toNat (↑(limb a (2 : Nat)) : Int)) (Int.toNat (↑(limb b (2 : Nat)) : Int))
                                  (Int.toNat
                                    (↑(sbHi (Int.toNat (↑(limb a (1 : Nat)) : Int))
                                          (Int.toNat (↑(limb b (1 : Nat)) : Int))
                                          (Int.toNat
                                            (↑(sbHi (Int.toNat (↑(limb a (0 : Nat)) : Int))
                                                  (Int.toNat (↑(limb b (0 : Nat)) : Int)) (0 : Nat)) :
                                              Int))) :
                                      Int))) :
                              Int))) :
                      Int) ==
                    (0 : Int)])))]
 := by kernel_rfl

/-- A sum limb by limb. -/
theorem add_limbs (a0 a1 a2 a3 b0 b1 b2 b3 c1 c2 c3 c4 s0 s1 s2 s3 : Nat) (h0 : a0 + b0 = s0 + 18446744073709551616 * c1) (h1 : a1 + b1 + c1 = s1 + 18446744073709551616 * c2) (h2 : a2 + b2 + c2 = s2 + 18446744073709551616 * c3)
    (h3 : a3 + b3 + c3 = s3 + 18446744073709551616 * c4) : nv a0 a1 a2 a3 + nv b0 b1 b2 b3 = nv s0 s1 s2 s3 + top * c4 := by
  simp only [nv, top]; omega
theorem sub_limbs (a0 a1 a2 a3 b0 b1 b2 b3 c1 c2 c3 c4 s0 s1 s2 s3 : Nat) (h0 : a0 + 18446744073709551616 * c1 = s0 + b0) (h1 : a1 + 18446744073709551616 * c2 = s1 + b1 + c1) (h2 : a2 + 18446744073709551616 * c3 = s2 + b2 + c2)
    (h3 : a3 + 18446744073709551616 * c4 = s3 + b3 + c3) : nv a0 a1 a2 a3 + top * c4 = nv s0 s1 s2 s3 + nv b0 b1 b2 b3 := by
  simp only [nv, top]; omega
theorem el_add_top (n c : Nat) : el (n + top * c) = el n := by
  rw [← el_mod, Nat.add_mul_mod_self_left, el_mod]
theorem ad_eq (x y c : Nat) : x + y + c = adLo x y c + 18446744073709551616 * adHi x y c ∧ adLo x y c < 18446744073709551616 := by
  rw [adLo_eq, adHi_eq]; omega
theorem sb_eq (x y c : Nat) (hx : x < 18446744073709551616) (hy : y < 18446744073709551616) (hc : c ≤ 1) : x + 18446744073709551616 * sbHi x y c = sbLo x y c + y + c ∧ sbLo x y c < 18446744073709551616 ∧ sbHi x y c ≤ 1 := by
  rw [sbLo_eq, sbHi_eq]; split <;> omega
theorem adHi_le (x y c : Nat) (hx : x < 18446744073709551616) (hy : y < 18446744073709551616) (hc : c ≤ 1) : adHi x y c ≤ 1 := by
  rw [adHi_eq]; omega
theorem nv_self (a : Nat) (ha : a < top) : nv (limb a 0) (limb a 1) (limb a 2) (limb a 3) = a := by rw [nv_limb, Nat.mod_eq_of_lt ha]
theorem top_pos : 0 < top := by simp only [top]; omega
theorem add_ok (a b : Nat) (ha : a < top) (hb : b < top) (w : World) : Calls Try.prog 12 [el a, el b].toArray w (fun E w' => ∃ v, E = .returned v ∧ Res.ok w w' (.v (.tuple #[el (a + b), .bool (decide (top ≤ a + b))])) v ∧ Below w.heap.size w w') := by
  have a0 := limb_lt a 0
  have b0 := limb_lt b 0
  have a1 := limb_lt a 1
  have b1 := limb_lt b 1
  have a2 := limb_lt a 2
  have b2 := limb_lt b 2
  have a3 := limb_lt a 3
  have b3 := limb_lt b 3
  refine con_end (calls_plain hm Try.func12 (by kernel_rfl) rfl rfl 50 _ _ (run12 a b) ⟨fun _ => ⟨?_, ?_⟩, trivial⟩)
  · simp only [hold_cons, hold_nil, and_true, Int.toNat_natCast]
    have q0 := ad_eq (limb a 0) (limb b 0) 0
    have u0 := adHi_le (limb a 0) (limb b 0) 0 a0 b0 (by omega)
    generalize adHi (limb a 0) (limb b 0) 0 = c1 at *
    generalize adLo (limb a 0) (limb b 0) 0 = s0 at *
    have q1 := ad_eq (limb a 1) (limb b 1) c1
    have u1 := adHi_le (limb a 1) (limb b 1) c1 a1 b1 (by omega)
    generalize adHi (limb a 1) (limb b 1) c1 = c2 at *
    generalize adLo (limb a 1) (limb b 1) c1 = s1 at *
    have q2 := ad_eq (limb a 2) (limb b 2) c2
    have u2 := adHi_le (limb a 2) (limb b 2) c2 a2 b2 (by omega)
    generalize adHi (limb a 2) (limb b 2) c2 = c3 at *
    generalize adLo (limb a 2) (limb b 2) c2 = s2 at *
    have q3 := ad_eq (limb a 3) (limb b 3) c3
    have u3 := adHi_le (limb a 3) (limb b 3) c3 a3 b3 (by omega)
    generalize adHi (limb a 3) (limb b 3) c3 = c4 at *
    generalize adLo (limb a 3) (limb b 3) c3 = s3 at *
    repeat' apply And.intro
    all_goals first | exact trivial | (intro _ _; first | exact trivial | rfl | omega | skip)
  · simp only [Int.toNat_natCast]
    have q0 := ad_eq (limb a 0) (limb b 0) 0
    have u0 := adHi_le (limb a 0) (limb b 0) 0 a0 b0 (by omega)
    generalize adHi (limb a 0) (limb b 0) 0 = c1 at *
    generalize adLo (limb a 0) (limb b 0) 0 = s0 at *
    have q1 := ad_eq (limb a 1) (limb b 1) c1
    have u1 := adHi_le (limb a 1) (limb b 1) c1 a1 b1 (by omega)
    generalize adHi (limb a 1) (limb b 1) c1 = c2 at *
    generalize adLo (limb a 1) (limb b 1) c1 = s1 at *
    have q2 := ad_eq (limb a 2) (limb b 2) c2
    have u2 := adHi_le (limb a 2) (limb b 2) c2 a2 b2 (by omega)
    generalize adHi (limb a 2) (limb b 2) c2 = c3 at *
    generalize adLo (limb a 2) (limb b 2) c2 = s2 at *
    have q3 := ad_eq (limb a 3) (limb b 3) c3
    have u3 := adHi_le (limb a 3) (limb b 3) c3 a3 b3 (by omega)
    generalize adHi (limb a 3) (limb b 3) c3 = c4 at *
    generalize adLo (limb a 3) (limb b 3) c3 = s3 at *
    have this := add_limbs (limb a 0) (limb a 1) (limb a 2) (limb a 3) (limb b 0) (limb b 1) (limb b 2) (limb b 3) c1 c2 c3 c4 s0 s1 s2 s3 q0.1 q1.1 q2.1 q3.1
    rw [nv_self a ha, nv_self b hb] at this
    have hlt := nv_lt q0.2 q1.2 q2.2 q3.2
    rw [this, el_add_top, el_nv q0.2 q1.2 q2.2 q3.2]
    refine congrArg (fun x => Res.v (Value.tuple #[_, Value.bool x])) ?_
    have ht : (top ≤ nv s0 s1 s2 s3 + top * c4) ↔ ¬ ((c4 : Int) = 0) := by
      have := top_pos
      constructor
      · intro h h0
        have h0 : c4 = 0 := by omega
        subst h0
        omega
      · intro h
        have h1 : 1 ≤ c4 := by omega
        have := Nat.mul_le_mul_left top h1
        omega
    rw [Bool.eq_iff_iff, decide_eq_true_iff, ht]
    simp
theorem sub_ok (a b : Nat) (ha : a < top) (hb : b < top) (w : World) : Calls Try.prog 14 [el a, el b].toArray w (fun E w' => ∃ v, E = .returned v ∧ Res.ok w w' (.v (.tuple #[el (a + top - b), .bool (decide (a < b))])) v ∧ Below w.heap.size w w') := by
  have a0 := limb_lt a 0
  have b0 := limb_lt b 0
  have a1 := limb_lt a 1
  have b1 := limb_lt b 1
  have a2 := limb_lt a 2
  have b2 := limb_lt b 2
  have a3 := limb_lt a 3
  have b3 := limb_lt b 3
  refine con_end (calls_plain hm Try.func14 (by kernel_rfl) rfl rfl 50 _ _ (run14 a b) ⟨fun _ => ⟨?_, ?_⟩, trivial⟩)
  · simp only [hold_cons, hold_nil, and_true, Int.toNat_natCast]
    have q0 := sb_eq (limb a 0) (limb b 0) 0 a0 b0 (by omega)
    generalize sbHi (limb a 0) (limb b 0) 0 = c1 at *
    generalize sbLo (limb a 0) (limb b 0) 0 = s0 at *
    have q1 := sb_eq (limb a 1) (limb b 1) c1 a1 b1 (by omega)
    generalize sbHi (limb a 1) (limb b 1) c1 = c2 at *
    generalize sbLo (limb a 1) (limb b 1) c1 = s1 at *
    have q2 := sb_eq (limb a 2) (limb b 2) c2 a2 b2 (by omega)
    generalize sbHi (limb a 2) (limb b 2) c2 = c3 at *
    generalize sbLo (limb a 2) (limb b 2) c2 = s2 at *
    have q3 := sb_eq (limb a 3) (limb b 3) c3 a3 b3 (by omega)
    generalize sbHi (limb a 3) (limb b 3) c3 = c4 at *
    generalize sbLo (limb a 3) (limb b 3) c3 = s3 at *
    repeat' apply And.intro
    all_goals first | exact trivial | (intro _ _; first | exact trivial | rfl | omega | skip)
  · simp only [Int.toNat_natCast]
    have q0 := sb_eq (limb a 0) (limb b 0) 0 a0 b0 (by omega)
    generalize sbHi (limb a 0) (limb b 0) 0 = c1 at *
    generalize sbLo (limb a 0) (limb b 0) 0 = s0 at *
    have q1 := sb_eq (limb a 1) (limb b 1) c1 a1 b1 (by omega)
    generalize sbHi (limb a 1) (limb b 1) c1 = c2 at *
    generalize sbLo (limb a 1) (limb b 1) c1 = s1 at *
    have q2 := sb_eq (limb a 2) (limb b 2) c2 a2 b2 (by omega)
    generalize sbHi (limb a 2) (limb b 2) c2 = c3 at *
    generalize sbLo (limb a 2) (limb b 2) c2 = s2 at *
    have q3 := sb_eq (limb a 3) (limb b 3) c3 a3 b3 (by omega)
    generalize sbHi (limb a 3) (limb b 3) c3 = c4 at *
    generalize sbLo (limb a 3) (limb b 3) c3 = s3 at *
    have this := sub_limbs (limb a 0) (limb a 1) (limb a 2) (limb a 3) (limb b 0) (limb b 1) (limb b 2) (limb b 3) c1 c2 c3 c4 s0 s1 s2 s3 q0.1 q1.1 q2.1 q3.1
    rw [nv_self a ha, nv_self b hb] at this
    have hlt := nv_lt q0.2.1 q1.2.1 q2.2.1 q3.2.1
    have hc4 : c4 = 0 ∨ c4 = 1 := by omega
    have he : el (a + top - b) = el (nv s0 s1 s2 s3) := by
      rcases hc4 with h | h
      · subst h
        rw [show a + top - b = nv s0 s1 s2 s3 + top * 1 by omega, el_add_top]
      · subst h
        rw [show a + top - b = nv s0 s1 s2 s3 by omega]
    rw [he, el_nv q0.2.1 q1.2.1 q2.2.1 q3.2.1]
    refine congrArg (fun x => Res.v (Value.tuple #[_, Value.bool x])) ?_
    rw [Bool.eq_iff_iff, decide_eq_true_iff]
    rcases hc4 with h | h
    · subst h
      simp
      omega
    · subst h
      simp
      omega
end Go.Proofs.Ytcipmpamhffclaa
