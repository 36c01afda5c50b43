/- The law of the products of three, walked: it answers true. -/
import Derived.Test.YtcipmpamhffclaaV5
namespace Go.Proofs.Ytcipmpamhffclaa
open Go.Sx Go.Pl Go.RowKit
theorem run5 (a b c m : Nat) : (((xgo Try.prog X (bodyOf Try.f5) 90 CG [] 50 [Dec.f] (Tree.br [] Tree.nil [Dec.ld (SV.v (Value.tuple (Array.mk [el (a * b % top), el (a * b / top)]))), Dec.ld (SV.v (Value.tuple (Array.mk [el (a * b % m), Value.int IntKind.i64 (0 : Int)]))), Dec.ld (SV.v (Value.tuple (Array.mk [el (a * b % m * c % top), el (a * b % m * c / top)]))), Dec.ld (SV.v (Value.tuple (Array.mk [el (a * b % m * c % m), Value.int IntKind.i64 (0 : Int)]))), Dec.ld (SV.v (Value.tuple (Array.mk [el (b * c % top), el (b * c / top)]))), Dec.ld (SV.v (Value.tuple (Array.mk [el (b * c % m), Value.int IntKind.i64 (0 : Int)]))), Dec.ld (SV.v (Value.tuple (Array.mk [el (a * (b * c % m) % top), el (a * (b * c % m) / top)]))), Dec.ld (SV.v (Value.tuple (Array.mk [el (a * (b * c % m) % m), Value.int IntKind.i64 (0 : Int)])))] (Tree.br [Dec.t] Tree.nil [Dec.f] Tree.nil)) [.at []] ⟨argsTm 0 [el a, el b, el c, el m], []⟩ [] []).bind (ends Try.prog Try.f5.results.toList)).bind plainE) =
  some [EndP.mk [decide (elL m = [(0 : Int), (0 : Int), (0 : Int), (0 : Int)]) = true] [fun _ => ([] : List RV) = [],
    fun _ => false = false,
    fun _ => (4 : Nat) ≤ (4 : Nat),
    fun _ => decide (elL m = [(0 : Int), (0 : Int), (0 : Int), (0 : Int)]) = true] (Res.v (Value.bool true)),
  EndP.mk [decide (elL m = [(0 : Int), (0 : Int), (0 : Int), (0 : Int)]) = false, decide (elL (a * b % m * c % m) = elL (a * (b * c % m) % m)) = true] [fun _ => ([] : List RV) = [],
    fun _ => false = false,
    fun _ => (4 : Nat) ≤ (4 : Nat),
    fun _ => decide (elL m = [(0 : Int), (0 : Int), (0 : Int), (0 : Int)]) = false,
    fun _ => el a = el (elN a) ∧ el b = el (elN b) ∧ elN a < top ∧ elN b < top,
    fun _ => Value.tuple (Array.mk [el (elN a * elN b % top), el (elN a * elN b / top)]) = Value.tuple (Array.mk [el (a * b % top), el (a * b / top)]),
    fun _ => (0 : Nat) + (4 : Nat) ≤ (4 : Nat),
    fun _ => (0 : Nat) + (4 : Nat) ≤ (4 : Nat),
    fun _ => el (a * b % top) = el (elN (a * b % top)) ∧ el (a * b / top) = el (elN (a * b / top)) ∧ el m = el (elN m) ∧ elN (a * b % top) < top ∧ elN (a * b / top) < top ∧ elN m < top,
    fun _ => remV (elN (a * b % top)) (elN (a * b / top)) (elN m) = Value.tuple (Array.mk [el (a * b % m), Value.int IntKind.i64 (0 : Int)]),
    fun _ => (0 : Nat) + (4 : Nat) ≤ (4 : Nat),
    fun _ => el (a * b % m) = el (elN (a * b % m)) ∧ el c = el (elN c) ∧ elN (a * b % m) < top ∧ elN c < top,
    fun _ => Value.tuple (Array.mk [el (elN (a * b % m) * elN c % top), el (elN (a * b % m) * elN c / top)]) = Value.tuple (Array.mk [el (a * b % m * c % top), el (a * b % m * c / top)]),
    fun _ => (0 : Nat) + (4 : Nat) ≤ (4 : Nat),
    fun _ => (0 : Nat) + (4 : Nat) ≤ (4 : Nat),
    fun _ => el (a * b % m * c % top) = el (elN (a * b % m * c % top)) ∧ el (a * b % m * c / top) = el (elN (a * b % m * c / top)) ∧ el m = el (elN m) ∧ elN (a * b % m * c % top) < top ∧ elN (a * b % m * c / top) < top ∧ elN m < top,
    fun _ => remV (elN (a * b % m * c % top)) (elN (a * b % m * c / top)) (elN m) = Value.tuple (Array.mk [el (a * b % m * c % m), Value.int IntKind.i64 (0 : Int)]),
    fun _ => (0 : Nat) + (4 : Nat) ≤ (4 : Nat),
    fun _ => el b = el (elN b) ∧ el c = el (elN c) ∧ elN b < top ∧ elN c < top,
    fun _ => Value.tuple (Array.mk [el (elN b * elN c % top), el (elN b * elN c / top)]) = Value.tuple (Array.mk [el (b * c % top), el (b * c / top)]),
    fun _ => (0 : Nat) + (4 : Nat) ≤ (4 : Nat),
    fun _ => (0 : Nat) + (4 : Nat) ≤ (4 : Nat),
    fun _ => el (b * c % top) = el (elN (b * c % top)) ∧ el (b * c / top) = el (elN (b * c / top)) ∧ el m = el (elN m) ∧ elN (b * c % top) < top ∧ elN (b * c / top) < top ∧ elN m < top,
    fun _ => remV (elN (b * c % top)) (elN (b * c / top)) (elN m) = Value.tuple (Array.mk [el (b * c % m), Value.int IntKind.i64 (0 : Int)]),
    fun _ => (0 : Nat) + (4 : Nat) ≤ (4 : Nat),
    fun _ => el a = el (elN a) ∧ el (b * c % m) = el (elN (b * c % m)) ∧ elN a < top ∧ elN (b * c % m) < top,
    fun _ => Value.tuple (Array.mk [el (elN a * elN (b * c % m) % top), el (elN a * elN (b * c % m) / top)]) = Value.tuple (Array.mk [el (a * (b * c % m) % top), el (a * (b * c % m) / top)]),
    fun _ => (0 : Nat) + (4 : Nat) ≤ (4 : Nat),
    fun _ => (0 : Nat) + (4 : Nat) ≤ (4 : Nat),
    fun _ => el (a * (b * c % m) % top) = el (elN (a * (b * c % m) % top)) ∧ el (a * (b * c % m) / top) = el (elN (a * (b * c % m) / top)) ∧ el m = el (elN m) ∧ elN (a * (b * c % m) % top) < top ∧ elN (a * (b * c % m) / top) < top ∧ elN m < top,
    fun _ => remV (elN (a * (b * c % m) % top)) (elN (a * (b * c % m) / top)) (elN m) = Value.tuple (Array.mk [el (a * (b * c % m) % m), Value.int IntKind.i64 (0 : Int)]),
    fun _ => (0 : Nat) + (4 : Nat) ≤ (4 : Nat),
    fun _ => decide (elL (a * b % m * c % m) = elL (a * (b * c % m) % m)) = true,
    fun _ => true = true,
    fun _ => el (a * b % m * c % m) = el (elN (a * b % m * c % m)) ∧ el m = el (elN m) ∧ elN (a * b % m * c % m) < top ∧ elN m < top] (Res.v (Value.bool (decide (elN (a * b % m * c % m) < elN m)))),
  EndP.mk [decide (elL m = [(0 : Int), (0 : Int), (0 : Int), (0 : Int)]) = false, decide (elL (a * b % m * c % m) = elL (a * (b * c % m) % m)) = false] [fun _ => ([] : List RV) = [],
    fun _ => false = false,
    fun _ => (4 : Nat) ≤ (4 : Nat),
    fun _ => decide (elL m = [(0 : Int), (0 : Int), (0 : Int), (0 : Int)]) = false,
    fun _ => el a = el (elN a) ∧ el b = el (elN b) ∧ elN a < top ∧ elN b < top,
    fun _ => Value.tuple (Array.mk [el (elN a * elN b % top), el (elN a * elN b / top)]) = Value.tuple (Array.mk [el (a * b % top), el (a * b / top)]),
    fun _ => (0 : Nat) + (4 : Nat) ≤ (4 : Nat),
    fun _ => (0 : Nat) + (4 : Nat) ≤ (4 : Nat),
    fun _ => el (a * b % top) = el (elN (a * b % top)) ∧ el (a * b / top) = el (elN (a * b / top)) ∧ el m = el (elN m) ∧ elN (a * b % top) < top ∧ elN (a * b / top) < top ∧ elN m < top,
    fun _ => remV (elN (a * b % top)) (elN (a * b / top)) (elN m) = Value.tuple (Array.mk [el (a * b % m), Value.int IntKind.i64 (0 : Int)]),
    fun _ => (0 : Nat) + (4 : Nat) ≤ (4 : Nat),
    fun _ => el (a * b % m) = el (elN (a * b % m)) ∧ el c = el (elN c) ∧ elN (a * b % m) < top ∧ elN c < top,
    fun _ => Value.tuple (Array.mk [el (elN (a * b % m) * elN c % top), el (elN (a * b % m) * elN c / top)]) = Value.tuple (Array.mk [el (a * b % m * c % top), el (a * b % m * c / top)]),
    fun _ => (0 : Nat) + (4 : Nat) ≤ (4 : Nat),
    fun _ => (0 : Nat) + (4 : Nat) ≤ (4 : Nat),
    fun _ => el (a * b % m * c % top) = el (elN (a * b % m * c % top)) ∧ el (a * b % m * c / top) = el (elN (a * b % m * c / top)) ∧ el m = el (elN m) ∧ elN (a * b % m * c % top) < top ∧ elN (a * b % m * c / top) < top ∧ elN m < top,
    fun _ => remV (elN (a * b % m * c % top)) (elN (a * b % m * c / top)) (elN m) = Value.tuple (Array.mk [el (a * b % m * c % m), Value.int IntKind.i64 (0 : Int)]),
    fun _ => (0 : Nat) + (4 : Nat) ≤ (4 : Nat),
    fun _ => el b = el (elN b) ∧ el c = el (elN c) ∧ elN b < top ∧ elN c < top,
    fun _ => Value.tuple (Array.mk [el (elN b * elN c % top), el (elN b * elN c / top)]) = Value.tuple (Array.mk [el (b * c % top), el (b * c / top)]),
    fun _ => (0 : Nat) + (4 : Nat) ≤ (4 : Nat),
    fun _ => (0 : Nat) + (4 : Nat) ≤ (4 : Nat),
    fun _ => el (b * c % top) = el (elN (b * c % top)) ∧ el (b * c / top) = el (elN (b * c / top)) ∧ el m = el (elN m) ∧ elN (b * c % top) < top ∧ elN (b * c / top) < top ∧ elN m < top,
    fun _ => remV (elN (b * c % top)) (elN (b * c / top)) (elN m) = Value.tuple (Array.mk [el (b * c % m), Value.int IntKind.i64 (0 : Int)]),
    fun _ => (0 : Nat) + (4 : Nat) ≤ (4 : Nat),
    fun _ => el a = el (elN a) ∧ el (b * c % m) = el (elN (b * c % m)) ∧ elN a < top ∧ elN (b * c % m) < top,
    fun _ => Value.tuple (Array.mk [el (elN a * elN (b * c % m) % top), el (elN a * elN (b * c % m) / top)]) = Value.tuple (Array.mk [el (a * (b * c % m) % top), el (a * (b * c % m) / top)]),
    fun _ => (0 : Nat) + (4 : Nat) ≤ (4 : Nat),
    fun _ => (0 : Nat) + (4 : Nat) ≤ (4 : Nat),
    fun _ => el (a * (b * c % m) % top) = el (elN (a * (b * c % m) % top)) ∧ el (a * (b * c % m) / top) = el (elN (a * (b * c % m) / top)) ∧ el m = el (elN m) ∧ elN (a * (b * c % m) % top) < top ∧ elN (a * (b * c % m) / top) < top ∧ elN m < top,
    fun _ => remV (elN (a * (b * c % m) % top)) (elN (a * (b * c % m) / top)) (elN m) = Value.tuple (Array.mk [el (a * (b * c % m) % m), Value.int IntKind.i64 (0 : Int)]),
    fun _ => (0 : Nat) + (4 : Nat) ≤ (4 : Nat),
    fun _ => decide (elL (a * b % m * c % m) = elL (a * (b * c % m) % m)) = false,
    fun _ => false = false] (Res.v (Value.bool false))]
  := by kernel_rfl

theorem prod_lt {a b : Nat} (ha : a < top) (hb : b < top) : a * b / top < top := by
  have : a * b < top * top := Nat.mul_lt_mul'' ha hb
  exact Nat.div_lt_of_lt_mul this
theorem mod_top (x : Nat) : x % top < top := Nat.mod_lt _ top_pos
theorem rem_back (x m : Nat) (hm : m ≠ 0) : remV (x % top) (x / top) m = Value.tuple (Array.mk [el (x % m), Value.int IntKind.i64 (0 : Int)]) := by
  have hb : Nat.beq m 0 = false := by
    cases m with
    | zero => exact absurd rfl hm
    | succ k => rfl
  simp only [remV, hb, cond_false, Nat.div_add_mod']
theorem ne_zero_of {m : Nat} (h : decide (elL m = [(0 : Int), (0 : Int), (0 : Int), (0 : Int)]) = false) : m ≠ 0 := by
  intro hz
  subst hz
  rw [elL_zero] at h
  simp at h
theorem splits_ok (a b c m : Nat) (ha : a < top) (hb : b < top) (hc : c < top) (hmt : m < top) (w : World) : Calls Try.prog 5 [el a, el b, el c, el m].toArray w (fun E w' => ∃ v, E = .returned v ∧ Res.ok w w' (.v (.bool true)) v ∧ Below w.heap.size w w') := by
  have same : a * b % m * c % m = a * (b * c % m) % m := by
    rw [Nat.mod_mul_mod, Nat.mul_mod_mod, Nat.mul_assoc]
  refine con_end (calls_plain hm Try.func5 (by kernel_rfl) rfl rfl 50 _ _ (run5 a b c m) ⟨fun has => ⟨?_, rfl⟩, ⟨fun has => ?_, ⟨fun has => ?_, trivial⟩⟩⟩)
  · have h0 := has _ List.mem_cons_self
    simp only [hold_cons, hold_nil, and_true]
    exact ⟨fun _ _ => trivial, fun _ _ => trivial, fun _ _ => by omega, fun _ _ => h0⟩
  · have h0 := has _ List.mem_cons_self
    have h1 := has _ (List.mem_cons_of_mem _ List.mem_cons_self)
    have hz := ne_zero_of h0
    have hm0 : 0 < m := Nat.pos_of_ne_zero hz
    have rl : ∀ x : Nat, x % m < top := fun x => Nat.lt_trans (Nat.mod_lt _ hm0) hmt
    have k1 := rl (a * b); have k2 := rl (b * c); have k3 := rl (a * b % m * c); have k4 := rl (a * (b * c % m))
    have d1 := prod_lt ha hb; have d2 := prod_lt k1 hc; have d3 := prod_lt hb hc; have d4 := prod_lt ha k2
    have t1 := mod_top (a * b); have t2 := mod_top (a * b % m * c); have t3 := mod_top (b * c); have t4 := mod_top (a * (b * c % m))
    refine ⟨?_, ?_⟩
    · simp only [hold_cons, hold_nil, and_true, elN_eq ha, elN_eq hb, elN_eq hc, elN_eq hmt, elN_eq k1, elN_eq k2, elN_eq k3, elN_eq d1, elN_eq d2, elN_eq d3, elN_eq d4, elN_eq t1, elN_eq t2, elN_eq t3, elN_eq t4, rem_back _ m hz]
      repeat' apply And.intro
      all_goals (intro _ _; first | trivial | assumption | omega | (refine ⟨?_, ?_⟩ <;> first | assumption | trivial) | skip)
    · rw [elN_eq k3, elN_eq hmt, decide_eq_true (Nat.mod_lt _ hm0)]
  · have h1 := has _ (List.mem_cons_of_mem _ List.mem_cons_self)
    rw [same] at h1
    simp at h1
end Go.Proofs.Ytcipmpamhffclaa
