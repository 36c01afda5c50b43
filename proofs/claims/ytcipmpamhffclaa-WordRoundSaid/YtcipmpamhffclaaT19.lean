/- The document's digits: rounds. -/
import Derived.Test.YtcipmpamhffclaaT15
namespace Go.Pl
open Go.Sx
theorem txt_cat (d : Nat) (l : List Nat) : catB (txt (hx [d])) (txt (hx l)) = txt (hx (d :: l)) := by
  simp only [catB, txt, hx, List.map_cons, List.map_nil]
  apply ByteArray.ext
  simp
theorem allB_cut (d : Nat) (h : d < 16) : allB.extract d (d + 1) = txt (hx [d]) := by
  have h2 : d = 0 ∨ d = 1 ∨ d = 2 ∨ d = 3 ∨ d = 4 ∨ d = 5 ∨ d = 6 ∨ d = 7 ∨ d = 8 ∨ d = 9 ∨ d = 10 ∨ d = 11 ∨ d = 12 ∨ d = 13 ∨ d = 14 ∨ d = 15 := by omega
  rcases h2 with rfl | rfl | rfl | rfl | rfl | rfl | rfl | rfl | rfl | rfl | rfl | rfl | rfl | rfl | rfl | rfl <;> decide +kernel
theorem wrap_digit (d : Nat) (h : d < 16) : IntKind.wrap .i64 ((d : Int) + 1) = ((d + 1 : Nat) : Int) := by
  have h2 : d = 0 ∨ d = 1 ∨ d = 2 ∨ d = 3 ∨ d = 4 ∨ d = 5 ∨ d = 6 ∨ d = 7 ∨ d = 8 ∨ d = 9 ∨ d = 10 ∨ d = 11 ∨ d = 12 ∨ d = 13 ∨ d = 14 ∨ d = 15 := by omega
  rcases h2 with rfl | rfl | rfl | rfl | rfl | rfl | rfl | rfl | rfl | rfl | rfl | rfl | rfl | rfl | rfl | rfl <;> decide +kernel
theorem hx_length (l : List Nat) : (hx l).length = l.length := by simp [hx]
end Go.Pl
namespace Go.Proofs.Ytcipmpamhffclaa
open Go.Sx Go.Pl Go.RowKit
theorem rdZ (a y M : Nat) (l : List Nat) (kt : List It) : ((xgo Try.prog X (bodyOf Try.f45) 29 TF [] 20 [.as 21 (.v (.string (hidB (txt (hx [hide (a % y)]))))), .as 23 (.v (.string (hidB (txt (hx (a % y :: l)))))), .f] ((.nil)) (.at qZ :: .rnd qZ (M + 1) :: kt) (stZ a y (hidB (txt (hx l)))) [] []).map (trims [7, 6, 5, 2, 1])) =
  some [Leaf2.mk [] [fun _ => el a = el (elN a) ∧ (↑y : Int) = (↑(Int.toNat (↑y : Int)) : Int) ∧ (Int.toNat (↑y : Int) = (10 : Nat) ∨ Int.toNat (↑y : Int) = (16 : Nat)) ∧ elN a < top,
    fun _ => (0 : Nat) + (4 : Nat) ≤ (4 : Nat),
    fun _ => (0 : Int) ≤ IntKind.wrap IntKind.i64 ((↑(hide (elN a % Int.toNat (↑y : Int))) : Int) + (1 : Int)) ∧ IntKind.wrap IntKind.i64 ((↑(hide (elN a % Int.toNat (↑y : Int))) : Int) + (1 : Int)) ≤ (16 : Int),
    fun _ => (0 : Int) ≤ (↑(hide (elN a % Int.toNat (↑y : Int))) : Int) ∧ (↑(hide (elN a % Int.toNat (↑y : Int))) : Int) ≤ (↑(Int.toNat (IntKind.wrap IntKind.i64 ((↑(hide (elN a % Int.toNat (↑y : Int))) : Int) + (1 : Int)))) : Int),
    fun _ => Value.string (ByteArray.extract allB (Int.toNat (↑(hide (elN a % Int.toNat (↑y : Int))) : Int)) (Int.toNat (IntKind.wrap IntKind.i64 ((↑(hide (elN a % Int.toNat (↑y : Int))) : Int) + (1 : Int))))) = Value.string (hidB (txt (hx [hide (a % y)]))),
    fun _ => ByteArray.size (hidB (txt (hx [hide (a % y)]))) + ByteArray.size (hidB (txt (hx l))) ≤ (9223372036854775807 : Nat),
    fun _ => Value.string (catB (hidB (txt (hx [hide (a % y)]))) (hidB (txt (hx l)))) = Value.string (hidB (txt (hx (a % y :: l)))),
    fun _ => (0 : Nat) + (4 : Nat) ≤ (4 : Nat),
    fun _ => decide (elL (elN a / Int.toNat (↑y : Int)) = elL (0 : Nat)) = false] (It.rnd [(0 : Nat), (0 : Nat), (1 : Nat), (1 : Nat), (1 : Nat), (1 : Nat)] (M + (1 : Nat)) :: kt) (St.mk [((7 : Nat), SV.p (1 : Nat) (0 : Nat)), ((6 : Nat), SV.v (Value.string (hidB (txt (hx (a % y :: l)))))), ((5 : Nat), SV.v (Value.string allB)), ((2 : Nat), SV.p (0 : Nat) (0 : Nat)), ((1 : Nat), SV.v (Value.int IntKind.u64 (↑y : Int)))] [HO.cells (ec (elN a / Int.toNat (↑y : Int))) (24 : Nat), HO.cells (ec (0 : Nat)) (24 : Nat), HO.cells (ec (elN a / Int.toNat (↑y : Int))) (24 : Nat)])]
  := by kernel_rfl

theorem rdE (a y M : Nat) (l : List Nat) : (((xgo Try.prog X (bodyOf Try.f45) 29 TF [] 20 [.as 21 (.v (.string (hidB (txt (hx [hide (a % y)]))))), .as 23 (.v (.string (hidB (txt (hx (a % y :: l)))))), .t] (.nil) [.at qZ, .rnd qZ (M + 1), .blk 0] (stZ a y (hidB (txt (hx l)))) [] []).bind (ends Try.prog Try.f45.results.toList)).bind plainE) =
  some [EndP.mk [] [fun _ => el a = el (elN a) ∧ (↑y : Int) = (↑(Int.toNat (↑y : Int)) : Int) ∧ (Int.toNat (↑y : Int) = (10 : Nat) ∨ Int.toNat (↑y : Int) = (16 : Nat)) ∧ elN a < top,
    fun _ => (0 : Nat) + (4 : Nat) ≤ (4 : Nat),
    fun _ => (0 : Int) ≤ IntKind.wrap IntKind.i64 ((↑(hide (elN a % Int.toNat (↑y : Int))) : Int) + (1 : Int)) ∧ IntKind.wrap IntKind.i64 ((↑(hide (elN a % Int.toNat (↑y : Int))) : Int) + (1 : Int)) ≤ (16 : Int),
    fun _ => (0 : Int) ≤ (↑(hide (elN a % Int.toNat (↑y : Int))) : Int) ∧ (↑(hide (elN a % Int.toNat (↑y : Int))) : Int) ≤ (↑(Int.toNat (IntKind.wrap IntKind.i64 ((↑(hide (elN a % Int.toNat (↑y : Int))) : Int) + (1 : Int)))) : Int),
    fun _ => Value.string (ByteArray.extract allB (Int.toNat (↑(hide (elN a % Int.toNat (↑y : Int))) : Int)) (Int.toNat (IntKind.wrap IntKind.i64 ((↑(hide (elN a % Int.toNat (↑y : Int))) : Int) + (1 : Int))))) = Value.string (hidB (txt (hx [hide (a % y)]))),
    fun _ => ByteArray.size (hidB (txt (hx [hide (a % y)]))) + ByteArray.size (hidB (txt (hx l))) ≤ (9223372036854775807 : Nat),
    fun _ => Value.string (catB (hidB (txt (hx [hide (a % y)]))) (hidB (txt (hx l)))) = Value.string (hidB (txt (hx (a % y :: l)))),
    fun _ => (0 : Nat) + (4 : Nat) ≤ (4 : Nat),
    fun _ => decide (elL (elN a / Int.toNat (↑y : Int)) = elL (0 : Nat)) = true] (Res.v (Value.string (hidB (txt (hx (a % y :: l))))))]
  := by kernel_rfl

theorem rdS (a y : Nat) : ((xgo Try.prog X (bodyOf Try.f45) 29 TF [] 50 [] ((.nil)) [.at []] ⟨argsTm 0 [el a, .int .u64 (y : Int)], []⟩ [] []).map (trims [7, 6, 5, 2, 1])) =
  some [Leaf2.mk [] [fun _ => (4 : Nat) ≤ (4 : Nat)] [It.at [(0 : Nat), (1 : Nat), (1 : Nat), (1 : Nat), (1 : Nat)], It.blk (0 : Nat)] (St.mk [((7 : Nat), SV.p (1 : Nat) (0 : Nat)), ((6 : Nat), SV.v (Value.string (ByteArray.mk (Array.mk [])))), ((5 : Nat), SV.v (Value.string (ByteArray.mk (Array.mk [OfNat.ofNat (48 : Nat), OfNat.ofNat (49 : Nat), OfNat.ofNat (50 : Nat), OfNat.ofNat (51 : Nat), OfNat.ofNat (52 : Nat), OfNat.ofNat (53 : Nat), OfNat.ofNat (54 : Nat), OfNat.ofNat (55 : Nat), OfNat.ofNat (56 : Nat), OfNat.ofNat (57 : Nat), OfNat.ofNat (97 : Nat), OfNat.ofNat (98 : Nat), OfNat.ofNat (99 : Nat), OfNat.ofNat (100 : Nat), OfNat.ofNat (101 : Nat), OfNat.ofNat (102 : Nat)])))), ((2 : Nat), SV.p (0 : Nat) (0 : Nat)), ((1 : Nat), SV.v (Value.int IntKind.u64 (↑y : Int)))] [HO.cells (ec a) (24 : Nat), HO.cells [SV.v (Value.int IntKind.u64 (0 : Int)), SV.v (Value.int IntKind.u64 (0 : Int)), SV.v (Value.int IntKind.u64 (0 : Int)), SV.v (Value.int IntKind.u64 (0 : Int))] (24 : Nat)])]
  := by kernel_rfl


theorem ec0 : ec 0 = [.v (.int .u64 0), .v (.int .u64 0), .v (.int .u64 0), .v (.int .u64 0)] := by simp [ec, limb, hide_eq]
theorem rdigs_loop {w : World} (y : Nat) (hy : y = 10 ∨ y = 16) (R : Res → Prop) : ∀ (k a : Nat) (l : List Nat), a < top → a / y < 2 ^ k → l.length + k ≤ 300 → R (.v (.string (hidB (txt (hx (dgo y k (a / y) (a % y :: l))))))) →
    Ok Try.prog (bodyOf Try.f45) 29 (F0 w) w (bodyPost Try.prog Try.f45 fun E w' => ∃ v r, E = .returned v ∧ R r ∧ r.ok w w' v ∧ Below w.heap.size w w') (.rnd qZ (k + 2) :: [.blk 0]) (stZ a y (hidB (txt (hx l)))) := by
  intro k a l ha hk hb hR
  have hm16 : a % y < 16 := by
    rcases hy with h | h
    · subst h; omega
    · subst h; omega
  have hy2 : 2 ≤ y := by omega
  have hq : a / y < top := Nat.lt_of_le_of_lt (Nat.div_le_self _ _) ha
  have hF := F0.mono w
  have s1 : (0 : Int) ≤ IntKind.wrap IntKind.i64 (((a % y : Nat) : Int) + (1 : Int)) ∧ IntKind.wrap IntKind.i64 (((a % y : Nat) : Int) + (1 : Int)) ≤ (16 : Int) := by
    rw [wrap_digit _ hm16]; omega
  have s2 : (0 : Int) ≤ ((a % y : Nat) : Int) ∧ ((a % y : Nat) : Int) ≤ (↑(Int.toNat (IntKind.wrap IntKind.i64 (((a % y : Nat) : Int) + (1 : Int)))) : Int) := by
    rw [wrap_digit _ hm16]; omega
  have s3 : Value.string (ByteArray.extract allB (a % y) (Int.toNat (IntKind.wrap IntKind.i64 (((a % y : Nat) : Int) + (1 : Int))))) = Value.string (txt (hx [a % y])) := by
    rw [wrap_digit _ hm16, Int.toNat_natCast, allB_cut _ hm16]
  have s4 : ByteArray.size (txt (hx [a % y])) + ByteArray.size (txt (hx l)) ≤ (9223372036854775807 : Nat) := by
    rw [txt_size, txt_size, hx_length, hx_length]; simp only [List.length_cons, List.length_nil]; omega
  have s5 : Value.string (catB (txt (hx [a % y])) (txt (hx l))) = Value.string (txt (hx (a % y :: l))) := by rw [txt_cat]
  by_cases hz : a / y = 0
  · rw [hz, dgo_zero] at hR
    refine Ok.rnd (ok_plain hm hF (fun _ h => h) 20 _ _ _ _ (rdE a y k l) ⟨fun _ => ⟨?_, ?_⟩, trivial⟩)
    · simp only [hold_cons, hold_nil, and_true, elN_eq ha, Int.toNat_natCast, hide_eq, hidB_eq]
      exact ⟨fun _ _ => ⟨trivial, trivial, hy, ha⟩, fun _ _ => by omega, fun _ _ => s1, fun _ _ => s2, fun _ _ => s3, fun _ _ => s4, fun _ _ => s5, fun _ _ => by omega, fun _ _ => by rw [hz]; exact decide_eq_true rfl⟩
    · exact hR
  · obtain ⟨k, rfl⟩ : ∃ j, k = j + 1 := by
      cases k with
      | zero => exact absurd (by simpa using hk) hz
      | succ j => exact ⟨j, rfl⟩
    rw [dgo, if_neg hz] at hR
    refine Ok.rnd (xgo_trim hm hF finB 20 _ _ _ _ _ _ (rdZ a y (k + 1) l _) (paidCons (fun _ => ⟨?_, ?_⟩) paidNil))
    · simp only [hold_cons, hold_nil, and_true, elN_eq ha, Int.toNat_natCast, hide_eq, hidB_eq]
      exact ⟨fun _ _ => ⟨trivial, trivial, hy, ha⟩, fun _ _ => by omega, fun _ _ => s1, fun _ _ => s2, fun _ _ => s3, fun _ _ => s4, fun _ _ => s5, fun _ _ => by omega, fun _ _ => decide_eq_false (fun h => hz (elL_isZero hq (by rw [← elL_zero]; exact h)))⟩
    · simp only [elN_eq ha, Int.toNat_natCast]
      refine Ok.weaken (st' := stZ (a / y) y (hidB (txt (hx (a % y :: l))))) hF [0, 1] ⟨rfl, rfl, rfl, rfl, rfl, trivial⟩ ⟨rfl, rfl, trivial⟩ rfl ⟨?_, ?_⟩ (rdigs_loop y hy R k (a / y) (a % y :: l) hq (div_half (a / y) y k hy2 hk) (by simp only [List.length_cons]; omega) hR)
      · simp [stZ, wsAllT, ws]
      · simp [stZ, wsAllH, HO.ws, ec, wsL, ws]
termination_by k => k
theorem rdigits_ok (a y : Nat) (ha : a < top) (hy : y = 10 ∨ y = 16) (w : World) : Calls Try.prog 45 [el a, .int .u64 (y : Int)].toArray w (fun E w' => ∃ v, E = .returned v ∧ Res.ok w w' (.v (.string (dstr y a))) v ∧ Below w.heap.size w w') := by
  refine con_end (calls_of_ok (B := bodyOf Try.f45) (n := 29) Try.func45 (by kernel_rfl) rfl rfl (F := F0 w) (fun _ _ h => h) ?_)
  have hF := F0.mono w
  have e0 : hidB (txt (hx [])) = ByteArray.mk (Array.mk []) := by rw [hidB_eq]; rfl
  refine xgo_trim hm hF finB 50 _ _ _ _ _ _ (rdS a y) (paidCons (fun _ => ⟨?_, ?_⟩) paidNil)
  · simp only [hold_cons, hold_nil, and_true]; exact fun _ _ => by omega
  · refine ok_mono (st := stZ a y (ByteArray.mk (Array.mk []))) (by rw [stZ, ec0]; rfl) (Ok.loop 258 (by kernel_rfl) ?_)
    rw [← e0]
    refine rdigs_loop y hy (fun r => r = .v (.string (dstr y a))) 256 a [] ha ?_ (by simp) rfl
    rw [pow_top]; exact Nat.lt_of_le_of_lt (Nat.div_le_self _ _) ha
noncomputable def gRDigits : List RV → Option (Res × Prop)
  | [.v x, .v (.int .u64 y)] => match unEl x with
    | some a => some (.v (.string (dstr y.toNat a)), x = el a ∧ y = (y.toNat : Int) ∧ (y.toNat = 10 ∨ y.toNat = 16) ∧ a < top)
    | _ => none
  | _ => none
theorem gRDigits_ok (rvs : List RV) (r : Res) (p : Prop) (vs : List Value) (w : World) (hg : gRDigits rvs = some (r, p)) (hp : p) (hv : RVs (wmem w) rvs vs) : Calls Try.prog 45 vs.toArray w (fun E w' => ∃ v, E = .returned v ∧ r.ok w w' v ∧ Below w.heap.size w w') := by
  unfold gRDigits at hg
  split at hg
  · rename_i x y
    split at hg
    · simp only [Option.some.injEq, Prod.mk.injEq] at hg
      obtain ⟨rfl, rfl⟩ := hg
      obtain ⟨h1, h3, h4, h6⟩ := hp
      rw [rvs2 hv, h1]
      have := rdigits_ok _ _ h6 h4 w
      rw [← h3] at this
      exact this
    · cases hg
  · cases hg
noncomputable def TG : Con Try.prog := TF.add 45 gRDigits gRDigits_ok
end Go.Proofs.Ytcipmpamhffclaa
