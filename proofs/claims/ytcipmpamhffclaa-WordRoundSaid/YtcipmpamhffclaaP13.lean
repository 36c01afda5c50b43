/- What is shown is read as that number: the plain law and the walk. -/
import Derived.Test.YtcipmpamhffclaaP12
import Derived.Laws.Strings
import Derived.Lib.Split
namespace Go.Pl
open Go.Sx
/-- The number of digits. -/
def vl (y : Nat) : List Nat → Nat → Nat
  | [], a => a
  | d :: l, a => vl y l (a * y + d)
theorem vl_le (y : Nat) (hy : 1 ≤ y) : ∀ (l : List Nat) (a : Nat), a ≤ vl y l a
  | [], a => Nat.le_refl a
  | d :: l, a => by
    have := vl_le y hy l (a * y + d)
    have h2 : a * 1 ≤ a * y := Nat.mul_le_mul_left a hy
    rw [vl]; omega
theorem vl_dgo (y : Nat) (hy : 2 ≤ y) : ∀ (k a : Nat) (l : List Nat), a < 2 ^ k → vl y (dgo y k a l) 0 = vl y l a
  | 0, a, l, h => by
    have : a = 0 := by simpa using h
    rw [dgo, this]
  | k + 1, a, l, h => by
    rw [dgo]
    split
    · rename_i h0; rw [h0]
    · rw [vl_dgo y hy k (a / y) (a % y :: l) (div_half a y k hy h), vl]
      have := Nat.div_add_mod a y
      rw [Nat.mul_comm] at this
      rw [this]
theorem dgo_small (y : Nat) (hy : 2 ≤ y) : ∀ (k a : Nat) (l : List Nat), (∀ d ∈ l, d < y) → ∀ d ∈ dgo y k a l, d < y
  | 0, _, l, h => by rw [dgo]; exact h
  | k + 1, a, l, h => by
    rw [dgo]
    split
    · exact h
    · refine dgo_small y hy k (a / y) (a % y :: l) (fun d hd => ?_)
      rcases List.mem_cons.1 hd with rfl | h1
      · exact Nat.mod_lt _ (by omega)
      · exact h d h1
theorem dgo_ne (y : Nat) : ∀ (k a : Nat) (l : List Nat), l ≠ [] → dgo y k a l ≠ []
  | 0, _, l, h => by rw [dgo]; exact h
  | k + 1, a, l, h => by
    rw [dgo]
    split
    · exact h
    · exact dgo_ne y k (a / y) _ (by simp)
theorem txt_at (l : List Nat) (i : Nat) (h : i < l.length) (h16 : ∀ d ∈ l, d < 16) : at8 (txt (hx l)) i = hexc (l[i]) := by
  have hd : l[i] < 16 := h16 _ (List.getElem_mem h)
  have hc : hexc l[i] < 256 := by unfold hexc; split <;> omega
  simp only [at8, txt, hx, ByteArray.get!]
  simp [h, u8n]
  exact hc
theorem hexc_digit (y d : Nat) (hd : d < y) (hy : y = 10 ∨ y = 16) (s : ByteArray) (i : Nat) (h : at8 s i = hexc d) : at8 s i ≠ 95 ∧ dig y s i = some (d, 1) := by
  have hr : (48 ≤ at8 s i ∧ at8 s i ≤ 57 ∧ at8 s i - 48 = d) ∨ (y = 16 ∧ 97 ≤ at8 s i ∧ at8 s i ≤ 102 ∧ at8 s i - 87 = d) := by
    rw [h]
    unfold hexc
    split
    · left; omega
    · right; omega
  refine ⟨by omega, ?_⟩
  unfold dig
  rcases hr with ⟨h1, h2, h3⟩ | ⟨h0, h1, h2, h3⟩
  · rw [if_pos ⟨h1, h2⟩, h3]
  · rw [if_neg (by omega), if_pos ⟨h0, h1, h2⟩, h3]
theorem prs_digits (y : Nat) (hy : y = 10 ∨ y = 16) : ∀ (l pre : List Nat) (a : Nat) (z : Bool), (∀ d ∈ pre ++ l, d < y) → vl y l a < top → (l = [] → z = false) →
    ∀ m : Nat, prs y (txt (hx (pre ++ l))) (l.length + 1 + m) pre.length a z false = (vl y l a, 0)
  | [], pre, a, z, hd, hv, hz, m => by
    have hs : (txt (hx (pre ++ []))).size = pre.length := by rw [txt_size]; simp [hx]
    rw [show ([] : List Nat).length + 1 + m = m + 1 by simp; omega, prs, if_pos (by rw [hs]; exact Nat.le_refl _), hz rfl]
    simp [vl]
  | d :: l, pre, a, z, hd, hv, hz, m => by
    have hs : (txt (hx (pre ++ d :: l))).size = pre.length + (l.length + 1) := by rw [txt_size]; simp [hx]
    have hi : pre.length < (pre ++ d :: l).length := by simp
    have h16 : ∀ e ∈ pre ++ d :: l, e < 16 := fun e he => by have := hd e he; omega
    have hat := txt_at (pre ++ d :: l) pre.length hi h16
    have hel : (pre ++ d :: l)[pre.length] = d := by simp
    rw [hel] at hat
    have hdy : d < y := hd d (by simp)
    obtain ⟨h95, hg⟩ := hexc_digit y d hdy hy _ _ hat
    rw [vl] at hv
    have hle := vl_le y (by omega) l (a * y + d)
    rw [show (d :: l).length + 1 + m = (l.length + 1 + m) + 1 by simp only [List.length_cons]; omega, prs, if_neg (by rw [hs]; omega), if_neg h95, hg]
    have hlt : a * y + d < top := by omega
    simp only
    rw [Nat.mod_eq_of_lt hlt, decide_eq_false (by omega), Bool.false_or]
    have ih := prs_digits y hy l (pre ++ [d]) (a * y + d) false (by simpa using hd) hv (fun _ => rfl) m
    rw [List.append_assoc, List.singleton_append, List.length_append] at ih
    rw [vl]
    exact ih
theorem pRes_dstr (y a : Nat) (hy : y = 10 ∨ y = 16) (ha : a < top) : pRes y (dstr y a) = (a, 0) := by
  have hy2 : 2 ≤ y := by omega
  have hq : a / y < 2 ^ 256 := by
    have h1 : a / y ≤ a := Nat.div_le_self _ _
    have h2 : (2 : Nat) ^ 256 = top := by decide +kernel
    rw [h2]; omega
  have hval : vl y (dgo y 256 (a / y) [a % y]) 0 = a := by
    rw [vl_dgo y hy2 256 (a / y) [a % y] hq, vl, vl]
    have := Nat.div_add_mod a y
    rw [Nat.mul_comm] at this
    exact this
  have hsm := dgo_small y hy2 256 (a / y) [a % y] (fun d hd => by
    rw [List.mem_singleton] at hd; rw [hd]; exact Nat.mod_lt _ (by omega))
  have hne := dgo_ne y 256 (a / y) [a % y] (by simp)
  rw [pRes, dstr, hidB_eq]
  generalize dgo y 256 (a / y) [a % y] = L at *
  have h := prs_digits y hy L [] 0 true hsm (by rw [hval]; exact ha) (fun h => absurd h hne) 0
  rw [hval, List.nil_append, Nat.add_zero, List.length_nil] at h
  rw [txt_size, show (hx L).length = L.length by simp [hx]]
  exact h
theorem pre_dstr (a : Nat) : hasPre (dstr 10 a) sg16 = false := by
  by_cases h2 : 2 ≤ (dstr 10 a).size
  · rw [pre_eq _ h2, ← Bool.not_eq_true, beq_iff_eq]
    intro h
    rw [ByteArray.toList_eq, Go.Lib.extract_from_zero] at h
    have hsm := dgo_small 10 (by omega) 256 (a / 10) [a % 10] (fun d hd => by
      rw [List.mem_singleton] at hd; rw [hd]; exact Nat.mod_lt _ (by omega))
    rw [dstr, hidB_eq] at h h2
    generalize dgo 10 256 (a / 10) [a % 10] = L at *
    rw [txt_size, show (hx L).length = L.length by simp [hx]] at h2
    have hat := txt_at L 1 (by omega) (fun d hd => by have := hsm d hd; omega)
    have hd : L[1] < 10 := hsm _ (List.getElem_mem (by omega))
    have h3 := congrArg (fun l => l[1]?) h
    simp only [List.getElem?_take] at h3
    have h4 : at8 (txt (hx L)) 1 = 120 := by
      simp only [at8, ByteArray.get!]
      simp only [show (1 : Nat) < 2 by omega, if_true] at h3
      have h5 : (txt (hx L)).data[1]! = 120 := by
        rw [getElem!_def, ← Array.getElem?_toList, h3]
        decide +kernel
      rw [h5]; rfl
    rw [hat] at h4
    unfold hexc at h4
    split at h4 <;> omega
  · exact pre_short _ h2
theorem pAll_dstr (a : Nat) (ha : a < top) : pAll (dstr 10 a) = (a, 0) := by
  have := dstr_size 10 a
  rw [pAll, if_neg (by omega), pre_dstr, if_neg (by simp), pRes_dstr 10 a (.inl rfl) ha]
theorem xstr_pre (b : ByteArray) : hasPre (catB sg16 b) sg16 = true ∧ (catB sg16 b).extract 2 (catB sg16 b).size = b := by
  have e1 : sg16.size = 2 := by decide +kernel
  have hd : (catB sg16 b).data.toList = sg16.data.toList ++ b.data.toList := by rw [catB, ByteArray.data_append, Array.toList_append]
  have hz : (catB sg16 b).size = 2 + b.size := by
    rw [catB, ByteArray.size_append, e1]
  constructor
  · rw [hasPre, e1, decide_eq_true (by omega), Bool.true_and, beq_iff_eq, ByteArray.toList_eq, ByteArray.toList_eq, Go.Lib.extract_from_zero, hd]
    have : sg16.data.toList.length = 2 := by decide +kernel
    rw [List.take_append_of_le_length (by omega), List.take_of_length_le (by omega)]
  · rw [catB, ByteArray.extract_append_eq_right (by rw [e1]) (by rw [ByteArray.size_append])]
theorem pAll_xstr (a : Nat) (ha : a < top) : pAll (xstr0 a) = (a, 0) := by
  have hs := dstr_size 16 a
  have e : xstr0 a = catB sg16 (dstr 16 a) := by rw [xstr0, hidB_eq]; rfl
  have e1 : sg16.size = 2 := by decide +kernel
  obtain ⟨h1, h2⟩ := xstr_pre (dstr 16 a)
  rw [pAll, e, if_neg (by rw [catB, ByteArray.size_append, e1]; omega), if_pos h1, h2, pRes_dstr 16 a (.inr rfl) ha]
end Go.Pl
namespace Go.Proofs.Ytcipmpamhffclaa
open Go.Sx Go.Pl Go.RowKit
theorem run10 (a : Nat) : (((xgo Try.prog X (bodyOf Try.f10) 37 TL [] 60 [.f, .t, .t, .t] ((.nil)) [.at []] ⟨argsTm 0 [el a], []⟩ [] []).bind (ends Try.prog Try.f10.results.toList)).bind plainE) =
  some [EndP.mk [] [fun _ => ([] : List RV) = [],
    fun _ => false = false,
    fun _ => el a = el (elN a) ∧ elN a < top,
    fun _ => True,
    fun _ => (0 : Nat) + (4 : Nat) ≤ (4 : Nat),
    fun _ => el a = el (elN a) ∧ elN a < top,
    fun _ => True,
    fun _ => (0 : Nat) + (4 : Nat) ≤ (4 : Nat),
    fun _ => ((↑(pE (dstr (10 : Nat) (elN a))) : Int) == (0 : Int)) = true,
    fun _ => ((↑(pE (xstr0 (elN a))) : Int) == (0 : Int)) = true,
    fun _ => decide (elL (pN (dstr (10 : Nat) (elN a))) = elL a) = true] (Res.v (Value.bool (decide (elL (pN (xstr0 (elN a))) = elL a))))]
  := by kernel_rfl


theorem round_ok (a : Nat) (ha : a < top) (w : World) : Calls Try.prog 10 [el a].toArray w (fun E w' => ∃ v, E = .returned v ∧ Res.ok w w' (.v (.bool true)) v ∧ Below w.heap.size w w') := by
  have n1 : pN (dstr 10 a) = a := by rw [pN, hide_eq, pAll_dstr a ha]
  have e1 : pE (dstr 10 a) = 0 := by rw [pE, hide_eq, pAll_dstr a ha]
  have n2 : pN (xstr0 a) = a := by rw [pN, hide_eq, pAll_xstr a ha]
  have e2 : pE (xstr0 a) = 0 := by rw [pE, hide_eq, pAll_xstr a ha]
  refine con_end (calls_plain hm Try.func10 (by kernel_rfl) rfl rfl 60 _ _ (run10 a) ⟨fun _ => ⟨?_, ?_⟩, trivial⟩)
  · simp only [hold_cons, hold_nil, and_true, elN_eq ha, n1, e1, e2]
    exact ⟨fun _ _ => trivial, fun _ _ => trivial, fun _ _ => ⟨trivial, ha⟩, fun _ _ => trivial, fun _ _ => by omega, fun _ _ => ⟨trivial, ha⟩, fun _ _ => trivial, fun _ _ => by omega, fun _ _ => rfl, fun _ _ => rfl, fun _ _ => decide_eq_true trivial⟩
  · rw [elN_eq ha, n2]
    show Res.v (Value.bool _) = Res.v (Value.bool _)
    rw [decide_eq_true rfl]
end Go.Proofs.Ytcipmpamhffclaa
