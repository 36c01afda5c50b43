/- The digits of a number: states. -/
import Derived.Test.YtcipmpamhffclaaT6
import Derived.Test.YtcipmpamhffclaaB17
namespace Go.Pl
open Go.Sx
/-- The letter of a digit. -/
def hexc (d : Nat) : Nat := if d < 10 then 48 + d else 87 + d
/-- Letters as values. -/
def hx (l : List Nat) : List Value := l.map fun (d : Nat) => Value.int .u8 ((hexc d : Nat) : Int)
end Go.Pl
namespace Go.Proofs.Ytcipmpamhffclaa
open Go.Sx Go.Pl Go.RowKit
def qG : List Nat := [0,0,0,1,1]
noncomputable def stG0 (a y : Nat) : St := ⟨[(5, .v (.slice none 0 0)), (2, .p 0 0), (1, .v (.int .u64 (y : Int)))], [.cells (ec a) 24]⟩
noncomputable def stG (a y n : Nat) (l : List Nat) : St := ⟨[(5, .o 1), (2, .p 0 0), (1, .v (.int .u64 (y : Int)))], [.cells (ec a) 24, .row 5 1 n (mapv (hx l))]⟩
end Go.Proofs.Ytcipmpamhffclaa

namespace Go.Pl
open Go.Sx
/-- The digits of a number, those of the rest ahead. -/
def dgo (y : Nat) : Nat → Nat → List Nat → List Nat
  | 0, _, acc => acc
  | k + 1, a, acc => if a = 0 then acc else dgo y k (a / y) (a % y :: acc)
theorem dgo_zero (y k : Nat) (acc : List Nat) : dgo y k 0 acc = acc := by cases k <;> simp [dgo]
/-- A text that the kernel does not look into. -/
noncomputable def hidB (a : ByteArray) : ByteArray := Classical.choose (⟨a, rfl⟩ : ∃ x : ByteArray, x = a)
theorem hidB_eq (a : ByteArray) : hidB a = a := Classical.choose_spec (⟨a, rfl⟩ : ∃ x : ByteArray, x = a)
noncomputable def dstr (y a : Nat) : ByteArray := hidB (txt (hx (dgo y 256 (a / y) [a % y])))
theorem hex_at (d : Nat) (h : d < 16) : sbyte (ByteArray.mk (Array.mk [OfNat.ofNat (48 : Nat), OfNat.ofNat (49 : Nat), OfNat.ofNat (50 : Nat), OfNat.ofNat (51 : Nat), OfNat.ofNat (52 : Nat), OfNat.ofNat (53 : Nat), OfNat.ofNat (54 : Nat), OfNat.ofNat (55 : Nat), OfNat.ofNat (56 : Nat), OfNat.ofNat (57 : Nat), OfNat.ofNat (97 : Nat), OfNat.ofNat (98 : Nat), OfNat.ofNat (99 : Nat), OfNat.ofNat (100 : Nat), OfNat.ofNat (101 : Nat), OfNat.ofNat (102 : Nat)])) d = ((hexc d : Nat) : Int) := by
  have h2 : d = 0 ∨ d = 1 ∨ d = 2 ∨ d = 3 ∨ d = 4 ∨ d = 5 ∨ d = 6 ∨ d = 7 ∨ d = 8 ∨ d = 9 ∨ d = 10 ∨ d = 11 ∨ d = 12 ∨ d = 13 ∨ d = 14 ∨ d = 15 := by omega
  rcases h2 with rfl | rfl | rfl | rfl | rfl | rfl | rfl | rfl | rfl | rfl | rfl | rfl | rfl | rfl | rfl | rfl <;> rfl
theorem vals_mapv (l : List Value) : vals (mapv l) = l := unv_mapv l
theorem hx_u8 (l : List Nat) : ∀ v ∈ hx l, ∃ n : Nat, v = Value.int .u8 (n : Int) := by
  intro v hv
  simp only [hx, List.mem_map] at hv
  obtain ⟨d, _, rfl⟩ := hv
  exact ⟨_, rfl⟩
theorem div_half (a y k : Nat) (hy : 2 ≤ y) (h : a < 2 ^ (k + 1)) : a / y < 2 ^ k := by
  rw [Nat.pow_succ] at h
  refine Nat.lt_of_le_of_lt (Nat.div_le_div_left hy (by omega)) ?_
  omega
end Go.Pl
namespace Go.Proofs.Ytcipmpamhffclaa
open Go.Sx Go.Pl Go.RowKit
theorem digs0 (a y M : Nat) (kt : List It) : ((xgo Try.prog X (bodyOf Try.f44) 28 TD [] 20 [.t, .t, .as 22 (.v (.int .u8 ((hide (hexc (a % y)) : Nat) : Int))), .lx []] (.nil) (.at qG :: .rnd qG (M + 1) :: kt) (stG0 a y) [] []).map (trims [5, 2, 1])) =
  some [Leaf2.mk [] [fun _ => true = true,
    fun _ => true = true,
    fun _ => el a = el (elN a) ∧ (↑y : Int) = (↑(Int.toNat (↑y : Int)) : Int) ∧ (Int.toNat (↑y : Int) = (10 : Nat) ∨ Int.toNat (↑y : Int) = (16 : Nat)) ∧ elN a < top,
    fun _ => (0 : Nat) + (4 : Nat) ≤ (4 : Nat),
    fun _ => (0 : Int) ≤ (↑(hide (elN a % Int.toNat (↑y : Int))) : Int) ∧ (↑(hide (elN a % Int.toNat (↑y : Int))) : Int) < (16 : Int),
    fun _ => Value.int IntKind.u8 (sbyte (ByteArray.mk (Array.mk [OfNat.ofNat (48 : Nat), OfNat.ofNat (49 : Nat), OfNat.ofNat (50 : Nat), OfNat.ofNat (51 : Nat), OfNat.ofNat (52 : Nat), OfNat.ofNat (53 : Nat), OfNat.ofNat (54 : Nat), OfNat.ofNat (55 : Nat), OfNat.ofNat (56 : Nat), OfNat.ofNat (57 : Nat), OfNat.ofNat (97 : Nat), OfNat.ofNat (98 : Nat), OfNat.ofNat (99 : Nat), OfNat.ofNat (100 : Nat), OfNat.ofNat (101 : Nat), OfNat.ofNat (102 : Nat)])) (Int.toNat (↑(hide (elN a % Int.toNat (↑y : Int))) : Int))) = Value.int IntKind.u8 (↑(hide (hexc (a % y))) : Int),
    fun _ => (1 : Nat) ≤ (140737488355328 : Nat) ∧ (1 : Nat) ≤ (140737488355328 : Nat), fun M => (0 : Nat) = (0 : Nat) ∧ (∀ (u : Value), u ∈ ([] : List Value) → u.oneCell' = true) ∧ ((0 : Nat) = (0 : Nat) ∧ (none : Option Addr) = none ∨ MCells (fun a => M a) none [])] (It.rnd [(0 : Nat), (0 : Nat), (0 : Nat), (1 : Nat), (1 : Nat)] (M + (1 : Nat)) :: kt) (St.mk [((5 : Nat), SV.o (2 : Nat)), ((2 : Nat), SV.p (0 : Nat) (0 : Nat)), ((1 : Nat), SV.v (Value.int IntKind.u64 (↑y : Int)))] [HO.cells (ec (elN a / Int.toNat (↑y : Int))) (24 : Nat), HO.gone, HO.row (5 : Nat) (1 : Nat) (1 : Nat) [SV.v (Value.int IntKind.u8 (↑(hide (hexc (a % y))) : Int))]])]
  := by kernel_rfl

theorem digsK (a y n M : Nat) (l : List Nat) (kt : List It) : ((xgo Try.prog X (bodyOf Try.f44) 28 TD [] 20 [.f, .t, .as 22 (.v (.int .u8 ((hide (hexc (a % y)) : Nat) : Int)))] (.nil) (.at qG :: .rnd qG (M + 1) :: kt) (stG a y n l) [] []).map (trims [5, 2, 1])) =
  some [Leaf2.mk [] [fun _ => ((↑n : Int) == (0 : Int)) = false,
    fun _ => (!decide (elL a = [(0 : Int), (0 : Int), (0 : Int), (0 : Int)])) = true,
    fun _ => el a = el (elN a) ∧ (↑y : Int) = (↑(Int.toNat (↑y : Int)) : Int) ∧ (Int.toNat (↑y : Int) = (10 : Nat) ∨ Int.toNat (↑y : Int) = (16 : Nat)) ∧ elN a < top,
    fun _ => (0 : Nat) + (4 : Nat) ≤ (4 : Nat),
    fun _ => (0 : Int) ≤ (↑(hide (elN a % Int.toNat (↑y : Int))) : Int) ∧ (↑(hide (elN a % Int.toNat (↑y : Int))) : Int) < (16 : Int),
    fun _ => Value.int IntKind.u8 (sbyte (ByteArray.mk (Array.mk [OfNat.ofNat (48 : Nat), OfNat.ofNat (49 : Nat), OfNat.ofNat (50 : Nat), OfNat.ofNat (51 : Nat), OfNat.ofNat (52 : Nat), OfNat.ofNat (53 : Nat), OfNat.ofNat (54 : Nat), OfNat.ofNat (55 : Nat), OfNat.ofNat (56 : Nat), OfNat.ofNat (57 : Nat), OfNat.ofNat (97 : Nat), OfNat.ofNat (98 : Nat), OfNat.ofNat (99 : Nat), OfNat.ofNat (100 : Nat), OfNat.ofNat (101 : Nat), OfNat.ofNat (102 : Nat)])) (Int.toNat (↑(hide (elN a % Int.toNat (↑y : Int))) : Int))) = Value.int IntKind.u8 (↑(hide (hexc (a % y))) : Int),
    fun _ => ((1 : Nat) + n) * (1 : Nat) ≤ (140737488355328 : Nat) ∧ (1 : Nat) + n ≤ (140737488355328 : Nat)] (It.rnd [(0 : Nat), (0 : Nat), (0 : Nat), (1 : Nat), (1 : Nat)] (M + (1 : Nat)) :: kt) (St.mk [((5 : Nat), SV.o (3 : Nat)), ((2 : Nat), SV.p (0 : Nat) (0 : Nat)), ((1 : Nat), SV.v (Value.int IntKind.u64 (↑y : Int)))] [HO.cells (ec (elN a / Int.toNat (↑y : Int))) (24 : Nat), HO.row (5 : Nat) (1 : Nat) n (mapv (hx l)), HO.gone, HO.row (5 : Nat) (1 : Nat) ((1 : Nat) + n) (SV.v (Value.int IntKind.u8 (↑(hide (hexc (a % y))) : Int)) :: mapv (hx l))])]
  := by kernel_rfl

theorem digsE (a y n M : Nat) (l : List Nat) : (((xgo Try.prog X (bodyOf Try.f44) 28 TD [] 20 [.f, .f] (.nil) [.at qG, .rnd qG (M + 1), .blk 0, .at [1,1,1]] (stG a y n l) [] []).bind (ends Try.prog Try.f44.results.toList)).bind plainE) =
  some [EndP.mk [] [fun _ => ((↑n : Int) == (0 : Int)) = false,
    fun _ => (!decide (elL a = [(0 : Int), (0 : Int), (0 : Int), (0 : Int)])) = false,
    fun _ => mapv (hx l) = mapv (vals (mapv (hx l))) ∧ ∀ (v : Value), v ∈ vals (mapv (hx l)) → ∃ n : Nat, v = Value.int IntKind.u8 (n : Int)] (Res.v (Value.string (txt (vals (mapv (hx l))))))]
  := by kernel_rfl


theorem ren_rowT (π : List Nat) (T : TypeId) (sz n : Nat) (l : List Value) : some (HO.row T sz n (mapv l)) = some (renH π (.row T sz n (mapv l))) := by
  simp only [renH, mapv, renL_mapv]
theorem digs_next {w : World} {fin : Exit → Act → World → Prop} (π : List Nat) (hπ : nodupB π = true) (i j : Nat) (hij : π = [i, j]) (a y n : Nat) (l : List Nat) (M : Nat) (kt : List It) (tm : List (Nat × SV)) (hp : List HO)
    (h1 : RenT π tm (stG a y n l).tm) (h2 : RenH π hp (stG a y n l).heap π)
    (next : Ok Try.prog (bodyOf Try.f44) 28 (F0 w) w fin (.rnd qG (M + 1) :: kt) (stG a y n l)) : Ok Try.prog (bodyOf Try.f44) 28 (F0 w) w fin (.rnd qG (M + 1) :: kt) ⟨tm, hp⟩ := by
  subst hij
  refine Ok.weaken (F0.mono w) [i, j] _ h1 h2 hπ ⟨?_, ?_⟩ next
  · simp [stG, wsAllT, ws]
  · simp [stG, wsAllH, HO.ws, ec, wsL, ws]
    exact wsL_mapv _ _
theorem digs_loop {w : World} (y : Nat) (hy : y = 10 ∨ y = 16) (R : Res → Prop) : ∀ (k a : Nat) (l : List Nat), a < top → a < 2 ^ k → 0 < l.length → l.length + k ≤ 300 → R (.v (.string (txt (hx (dgo y k a l))))) →
    Ok Try.prog (bodyOf Try.f44) 28 (F0 w) w (bodyPost Try.prog Try.f44 fun E w' => ∃ v r, E = .returned v ∧ R r ∧ r.ok w w' v ∧ Below w.heap.size w w') (.rnd qG (k + 2) :: [.blk 0, .at [1,1,1]]) (stG a y l.length l) := by
  have stop : ∀ (M : Nat) (l : List Nat), 0 < l.length → R (.v (.string (txt (hx l)))) → Ok Try.prog (bodyOf Try.f44) 28 (F0 w) w (bodyPost Try.prog Try.f44 fun E w' => ∃ v r, E = .returned v ∧ R r ∧ r.ok w w' v ∧ Below w.heap.size w w') (.rnd qG (M + 2) :: [.blk 0, .at [1,1,1]]) (stG 0 y l.length l) := by
    intro M l hl hR
    refine Ok.rnd (ok_plain hm (F0.mono w) (fun _ h => h) 20 _ _ _ _ (digsE 0 y l.length M l) ⟨fun _ => ⟨?_, ?_⟩, trivial⟩)
    · simp only [hold_cons, hold_nil, and_true, vals_mapv]
      refine ⟨fun _ _ => ?_, fun _ _ => ?_, fun _ _ => ⟨trivial, hx_u8 l⟩⟩
      · simp only [beq_eq_false_iff_ne, ne_eq]; omega
      · rw [elL_zero]; simp
    · rw [vals_mapv]; exact hR
  intro k
  induction k with
  | zero =>
    intro a l ha hk hl hb hR
    have : a = 0 := by simpa using hk
    subst this
    exact stop 0 l hl hR
  | succ k ih =>
    intro a l ha hk hl hb hR
    by_cases hz : a = 0
    · subst hz
      rw [dgo_zero] at hR
      exact stop (k + 1) l hl hR
    · have hm16 : a % y < 16 := by
        rcases hy with h | h
        · subst h; omega
        · subst h; omega
      have hq : a / y < top := Nat.lt_of_le_of_lt (Nat.div_le_self _ _) ha
      rw [dgo, if_neg hz] at hR
      refine Ok.rnd (xgo_trim hm (F0.mono w) finB 20 _ _ _ _ _ _ (digsK a y l.length (k + 1) l _) (paidCons (fun _ => ⟨?_, ?_⟩) paidNil))
      · simp only [hold_cons, hold_nil, and_true, elN_eq ha, Int.toNat_natCast, hide_eq]
        refine ⟨fun _ _ => ?_, fun _ _ => ?_, fun _ _ => ⟨trivial, trivial, hy, ha⟩, fun _ _ => by omega, fun _ _ => ⟨by omega, by omega⟩, fun _ _ => by rw [hex_at _ hm16], fun _ _ => ⟨by omega, by omega⟩⟩
        · simp only [beq_eq_false_iff_ne, ne_eq]; omega
        · rw [decide_eq_false (fun h => hz (elL_isZero ha h))]; rfl
      · simp only [elN_eq ha, Int.toNat_natCast, hide_eq]
        refine digs_next [0, 3] rfl 0 3 rfl (a / y) y (a % y :: l).length (a % y :: l) _ _ _ _ ⟨rfl, rfl, rfl, trivial⟩ ⟨rfl, ?_, trivial⟩ (ih (a / y) (a % y :: l) hq (div_half a y k (by omega) hk) (by simp) (by simp only [List.length_cons]; omega) hR)
        show some (HO.row 5 1 (1 + l.length) (mapv (hx (a % y :: l)))) = some (renH [0, 3] (.row 5 1 (a % y :: l).length (mapv (hx (a % y :: l)))))
        rw [List.length_cons, Nat.add_comm 1]
        exact ren_rowT _ _ _ _ _
end Go.Proofs.Ytcipmpamhffclaa

namespace Go.Proofs.Ytcipmpamhffclaa
open Go.Sx Go.Pl Go.RowKit
theorem digitsStart (a y : Nat) : ((xgo Try.prog X (bodyOf Try.f44) 28 TD [] 50 [] (Tree.nil) [.at []] ⟨argsTm 0 [el a, .int .u64 (y : Int)], []⟩ [] []).map (trims [5, 2, 1])) =
  some [Leaf2.mk [] [] [It.at [(0 : Nat), (0 : Nat), (1 : Nat), (1 : Nat)], It.blk (0 : Nat), It.at [(1 : Nat), (1 : Nat), (1 : Nat)]] (St.mk [((5 : Nat), SV.v (Value.slice none (0 : Nat) (0 : Nat))), ((2 : Nat), SV.p (0 : Nat) (0 : Nat)), ((1 : Nat), SV.v (Value.int IntKind.u64 (↑y : Int)))] [HO.cells (ec a) (24 : Nat)])]
  := by kernel_rfl

theorem digits_ok (a y : Nat) (ha : a < top) (hy : y = 10 ∨ y = 16) (w : World) : Calls Try.prog 44 [el a, .int .u64 (y : Int)].toArray w (fun E w' => ∃ v, E = .returned v ∧ Res.ok w w' (.v (.string (dstr y a))) v ∧ Below w.heap.size w w') := by
  have hm16 : a % y < 16 := by
    rcases hy with h | h
    · subst h; omega
    · subst h; omega
  have hq : a / y < top := Nat.lt_of_le_of_lt (Nat.div_le_self _ _) ha
  have hq2 : a / y < 2 ^ 256 := by rw [pow_top]; exact hq
  refine con_end (calls_of_ok (B := bodyOf Try.f44) (n := 28) Try.func44 (by kernel_rfl) rfl rfl (F := F0 w) (fun _ _ h => h) ?_)
  have hF := F0.mono w
  refine xgo_trim hm hF finB 50 _ _ _ _ _ _ (digitsStart a y) (paidCons (fun _ => ⟨?_, ?_⟩) paidNil)
  · simp only [hold_nil]
  · refine ok_mono (st := stG0 a y) rfl (Ok.loop 259 (by kernel_rfl) (Ok.rnd (xgo_trim hm hF finB 20 _ _ _ _ _ _ (digs0 a y 257 _) (paidCons (fun _ => ⟨?_, ?_⟩) paidNil))))
    · simp only [hold_cons, hold_nil, and_true, elN_eq ha, Int.toNat_natCast, hide_eq]
      exact ⟨fun _ _ => trivial, fun _ _ => trivial, fun _ _ => ⟨trivial, trivial, hy, ha⟩, fun _ _ => by omega, fun _ _ => ⟨by omega, by omega⟩, fun _ _ => by rw [hex_at _ hm16], fun _ _ => ⟨by omega, by omega⟩, fun _ _ => ⟨trivial, by simp⟩⟩
    · simp only [elN_eq ha, Int.toNat_natCast, hide_eq]
      refine digs_next [0, 2] rfl 0 2 rfl (a / y) y 1 [a % y] _ _ _ _ ⟨rfl, rfl, rfl, trivial⟩ ⟨rfl, ?_, trivial⟩ (digs_loop y hy (fun r => r = .v (.string (dstr y a))) 256 (a / y) [a % y] hq hq2 (by simp) (by simp) ?_)
      · exact ren_rowT _ 5 1 1 (hx [a % y])
      · show Res.v _ = Res.v _
        rw [dstr, hidB_eq]
noncomputable def gDigits : List RV → Option (Res × Prop)
  | [.v x, .v (.int .u64 y)] => match unEl x with
    | some a => some (.v (.string (dstr y.toNat a)), x = el a ∧ y = (y.toNat : Int) ∧ (y.toNat = 10 ∨ y.toNat = 16) ∧ a < top)
    | _ => none
  | _ => none
theorem gDigits_ok (rvs : List RV) (r : Res) (p : Prop) (vs : List Value) (w : World) (hg : gDigits rvs = some (r, p)) (hp : p) (hv : RVs (wmem w) rvs vs) : Calls Try.prog 44 vs.toArray w (fun E w' => ∃ v, E = .returned v ∧ r.ok w w' v ∧ Below w.heap.size w w') := by
  unfold gDigits at hg
  split at hg
  · rename_i x y
    split at hg
    · simp only [Option.some.injEq, Prod.mk.injEq] at hg
      obtain ⟨rfl, rfl⟩ := hg
      obtain ⟨h1, h3, h4, h6⟩ := hp
      rw [rvs2 hv, h1]
      have := digits_ok _ _ h6 h4 w
      rw [← h3] at this
      exact this
    · cases hg
  · cases hg
noncomputable def TE : Con Try.prog := TD.add 44 gDigits gDigits_ok
end Go.Proofs.Ytcipmpamhffclaa
