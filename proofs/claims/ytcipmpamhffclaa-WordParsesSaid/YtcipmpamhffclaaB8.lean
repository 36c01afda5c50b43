/- The bits of a number: for callers. -/
import Derived.Test.YtcipmpamhffclaaB3
namespace Go.Proofs.Ytcipmpamhffclaa
open Go.Sx Go.Pl Go.RowKit
noncomputable def gBits : List RV → Option (Res × Prop)
  | [.v x] => match unEl x with
    | some a => some (.r 3 1 256 (bl (nb a 256)), x = el a)
    | _ => none
  | _ => none
theorem gBits_ok (rvs : List RV) (r : Res) (p : Prop) (vs : List Value) (w : World) (hg : gBits rvs = some (r, p)) (hp : p) (hv : RVs (wmem w) rvs vs) : Calls Try.prog 25 vs.toArray w (fun E w' => ∃ v, E = .returned v ∧ r.ok w w' v ∧ Below w.heap.size w w') := by
  unfold gBits at hg
  split at hg
  · rename_i x
    split at hg
    · simp only [Option.some.injEq, Prod.mk.injEq] at hg
      obtain ⟨rfl, rfl⟩ := hg
      match vs, hv with
      | [y], ⟨h1, _⟩ =>
        rw [h1, hp]
        exact bits_ok _ w
    · cases hg
  · cases hg
noncomputable def CD : Con Try.prog := CC.add 25 gBits gBits_ok
end Go.Proofs.Ytcipmpamhffclaa

namespace Go.Proofs.Ytcipmpamhffclaa
open Go.Sx Go.Pl Go.RowKit
def qA : List Nat := [0,0,1,0,1,1,1]
noncomputable def stA (oa ob : Option Addr) (n c d i e m : Nat) (l : List Nat) : St :=
  ⟨[(7, .v (.int .i64 (i : Int))), (6, .v (.int .i64 (e : Int))), (5, .o 0), (0, .v (.slice oa n c)), (1, .v (.slice ob n d))], [.row 3 1 m ((bl l).map SV.v)]⟩
end Go.Proofs.Ytcipmpamhffclaa

namespace Go.Pl
open Go.Sx
def addrAt (oa : Option Addr) (k : Nat) : Option Addr := match oa with | some x => some (if k = 0 then x else Addr.mk x.block (x.off + k) none) | none => none
/-- Such a cell is read at a place of a row. -/
theorem mcells_at {M : Mem} {oa : Option Addr} {l : List Value} {i : Nat} {v : Value} (h : MCells M oa l) (hi : l[i]? = some v) : MCells M (addrAt oa (i * 1)) [v] := by
  obtain ⟨ad, rfl, hc⟩ := h
  have h1 := hc i v hi
  by_cases h0 : i = 0
  · subst h0
    refine ⟨_, rfl, fun j u hu => ?_⟩
    cases j with
    | zero =>
      simp only [List.getElem?_cons_zero, Option.some.injEq] at hu
      subst hu
      simpa using h1
    | succ j => simp at hu
  · refine ⟨_, rfl, fun j u hu => ?_⟩
    cases j with
    | zero =>
      simp only [List.getElem?_cons_zero, Option.some.injEq] at hu
      subst hu
      rw [if_neg (by omega)]
      have : Addr.add (Addr.mk ad.block (ad.off + i * 1) none) 0 = Addr.add ad i := by
        simp [Addr.add, h0]
      rw [this]
      exact h1
    | succ j => simp at hu
end Go.Pl
namespace Go.Proofs.Ytcipmpamhffclaa
open Go.Sx Go.Pl Go.RowKit
theorem addRound (oa ob : Option Addr) (n c d i e m xi yi M : Nat) (l : List Nat) (kt : List It) : (xgo Try.prog X (bodyOf Try.f31) 38 CD [] 30 [.t, .ld (.v (.int .i64 (xi : Int))), .ld (.v (.int .i64 (yi : Int)))] (.nil) (.at qA :: .rnd qA (M + 1) :: kt) (stA oa ob n c d i e m l) [] []) =
  some
  [Leaf2.mk []
      [fun _ => decide ((↑i : Int) < (↑n : Int)) = true, fun _ => (0 : Int) ≤ (↑i : Int) ∧ (↑i : Int) < (↑n : Int),
        fun _ =>
        (match oa with
          | some _ => true
          | none => false) =
          true,
        fun M =>
        MCells (fun a => M a)
          (match oa with
          | some x =>
            some
              (if Int.toNat (↑i : Int) * (1 : Nat) = (0 : Nat) then x
              else Addr.mk x.1 (x.2 + Int.toNat (↑i : Int) * (1 : Nat)) none)
          | none => none)
          [Value.int IntKind.i64 (↑xi : Int)],
        fun _ => (0 : Int) ≤ (↑i : Int) ∧ (↑i : Int) < (↑n : Int), fun _ =>
        (match ob with
          | some _ => true
          | none => false) =
          true,
        fun M =>
        MCells (fun a => M a)
          (match ob with
          | some x =>
            some
              (if Int.toNat (↑i : Int) * (1 : Nat) = (0 : Nat) then x
              else Addr.mk x.1 (x.2 + Int.toNat (↑i : Int) * (1 : Nat)) none)
          | none => none)
          [Value.int IntKind.i64 (↑yi : Int)],
        fun _ => ¬(2 : Int) = (0 : Int), fun _ =>
        (m + (1 : Nat)) * (8 : Nat) ≤ (140737488355328 : Nat) ∧ m + (1 : Nat) ≤ (140737488355328 : Nat), fun _ =>
        ¬(2 : Int) = (0 : Int)]
      (It.rnd [(0 : Nat), (0 : Nat), (1 : Nat), (0 : Nat), (1 : Nat), (1 : Nat), (1 : Nat)] (M + (1 : Nat)) :: kt)
      (St.mk
        [((7 : Nat), SV.v (Value.int IntKind.i64 (IntKind.wrap IntKind.i64 ((↑i : Int) + (1 : Int))))),
          ((15 : Nat), SV.v (Value.int IntKind.i64 (IntKind.wrap IntKind.i64 ((↑i : Int) + (1 : Int))))),
          ((14 : Nat), SV.v (Value.int IntKind.i64 (↑i : Int))),
          ((6 : Nat),
            SV.v
              (Value.int IntKind.i64
                (IntKind.wrap IntKind.i64
                  (Int.tdiv
                    (IntKind.wrap IntKind.i64 (IntKind.wrap IntKind.i64 ((↑xi : Int) + (↑yi : Int)) + (↑e : Int)))
                    (2 : Int))))),
          ((33 : Nat),
            SV.v
              (Value.int IntKind.i64
                (IntKind.wrap IntKind.i64
                  (Int.tdiv
                    (IntKind.wrap IntKind.i64 (IntKind.wrap IntKind.i64 ((↑xi : Int) + (↑yi : Int)) + (↑e : Int)))
                    (2 : Int))))),
          ((32 : Nat),
            SV.v
              (Value.int IntKind.i64
                (IntKind.wrap IntKind.i64 (IntKind.wrap IntKind.i64 ((↑xi : Int) + (↑yi : Int)) + (↑e : Int))))),
          ((5 : Nat), SV.o (2 : Nat)), ((31 : Nat), SV.o (2 : Nat)), ((30 : Nat), SV.o (1 : Nat)),
          ((29 : Nat),
            SV.v
              (Value.int IntKind.i64
                (Int.tmod (IntKind.wrap IntKind.i64 (IntKind.wrap IntKind.i64 ((↑xi : Int) + (↑yi : Int)) + (↑e : Int)))
                  (2 : Int)))),
          ((28 : Nat),
            SV.v
              (Value.int IntKind.i64
                (IntKind.wrap IntKind.i64 (IntKind.wrap IntKind.i64 ((↑xi : Int) + (↑yi : Int)) + (↑e : Int))))),
          ((27 : Nat), SV.o (0 : Nat)),
          ((8 : Nat),
            SV.v
              (Value.int IntKind.i64
                (IntKind.wrap IntKind.i64 (IntKind.wrap IntKind.i64 ((↑xi : Int) + (↑yi : Int)) + (↑e : Int))))),
          ((26 : Nat),
            SV.v
              (Value.int IntKind.i64
                (IntKind.wrap IntKind.i64 (IntKind.wrap IntKind.i64 ((↑xi : Int) + (↑yi : Int)) + (↑e : Int))))),
          ((25 : Nat), SV.v (Value.int IntKind.i64 (↑e : Int))),
          ((24 : Nat), SV.v (Value.int IntKind.i64 (IntKind.wrap IntKind.i64 ((↑xi : Int) + (↑yi : Int))))),
          ((23 : Nat), SV.v (Value.int IntKind.i64 (↑yi : Int))),
          ((22 : Nat),
            SV.v
              (Value.pointer
                (match ob with
                | some x =>
                  some
                    (if Int.toNat (↑i : Int) * (1 : Nat) = (0 : Nat) then x
                    else Addr.mk x.1 (x.2 + Int.toNat (↑i : Int) * (1 : Nat)) none)
                | none => none))),
          ((21 : Nat), SV.v (Value.int IntKind.i64 (↑i : Int))), ((20 : Nat), SV.v (Value.slice ob n d)),
          ((19 : Nat), SV.v (Value.int IntKind.i64 (↑xi : Int))),
          ((18 : Nat),
            SV.v
              (Value.pointer
                (match oa with
                | some x =>
                  some
                    (if Int.toNat (↑i : Int) * (1 : Nat) = (0 : Nat) then x
                    else Addr.mk x.1 (x.2 + Int.toNat (↑i : Int) * (1 : Nat)) none)
                | none => none))),
          ((17 : Nat), SV.v (Value.int IntKind.i64 (↑i : Int))), ((16 : Nat), SV.v (Value.slice oa n c)),
          ((13 : Nat), SV.v (Value.bool (decide ((↑i : Int) < (↑n : Int))))),
          ((12 : Nat), SV.v (Value.int IntKind.i64 (↑n : Int))), ((11 : Nat), SV.v (Value.slice oa n c)),
          ((10 : Nat), SV.v (Value.int IntKind.i64 (↑i : Int))), ((0 : Nat), SV.v (Value.slice oa n c)),
          ((1 : Nat), SV.v (Value.slice ob n d))]
        [HO.gone,
          HO.row (3 : Nat) (1 : Nat) (1 : Nat)
            [SV.v
                (Value.int IntKind.i64
                  (Int.tmod
                    (IntKind.wrap IntKind.i64 (IntKind.wrap IntKind.i64 ((↑xi : Int) + (↑yi : Int)) + (↑e : Int)))
                    (2 : Int)))],
          HO.row (3 : Nat) (1 : Nat) (m + (1 : Nat))
            (List.map (fun x => SV.v x) (bl l) ++
              [SV.v
                  (Value.int IntKind.i64
                    (Int.tmod
                      (IntKind.wrap IntKind.i64 (IntKind.wrap IntKind.i64 ((↑xi : Int) + (↑yi : Int)) + (↑e : Int)))
                      (2 : Int)))])])] := by kernel_rfl


theorem add_round {w0 : World} {fin : Exit → Act → World → Prop} (hfin : ∀ c (a : Act) (d : Option Tmp) (v : Value) (w : World), fin (.panic c) (a.put d v) w → fin (.panic c) a w)
    (oa ob : Option Addr) (n c d i e m xi yi M : Nat) (xs ys l : List Nat) (kt : List It) (hi : i < n) (hn : n ≤ 1000) (hm1 : m ≤ 1000) (hx : xs[i]? = some xi) (hy : ys[i]? = some yi) (hx1 : xi ≤ 1) (hy1 : yi ≤ 1) (he : e ≤ 1)
    (ha : MCells (wmem w0) oa (bl xs)) (hb : MCells (wmem w0) ob (bl ys))
    (next : Ok Try.prog (bodyOf Try.f31) 38 (F0 w0) w0 fin (.rnd qA (M + 1) :: kt) (stA oa ob n c d (i + 1) ((xi + yi + e) / 2) (m + 1) (l ++ [(xi + yi + e) % 2]))) :
    Ok Try.prog (bodyOf Try.f31) 38 (F0 w0) w0 fin (.at qA :: .rnd qA (M + 1) :: kt) (stA oa ob n c d i e m l) := by
  have hF := F0.mono w0
  have hxv : (bl xs)[i]? = some (.int .i64 (xi : Int)) := by simp [bl, hx]
  have hyv : (bl ys)[i]? = some (.int .i64 (yi : Int)) := by simp [bl, hy]
  have e1 : IntKind.wrap .i64 ((i : Int) + 1) = ((i + 1 : Nat) : Int) := wrap_i64 (i + 1) (by omega)
  have e2 : IntKind.wrap .i64 ((xi : Int) + (yi : Int)) = ((xi + yi : Nat) : Int) := wrap_i64 (xi + yi) (by omega)
  have e3 : IntKind.wrap .i64 (((xi + yi : Nat) : Int) + (e : Int)) = ((xi + yi + e : Nat) : Int) := wrap_i64 (xi + yi + e) (by omega)
  have e4 : Int.tdiv ((xi + yi + e : Nat) : Int) 2 = (((xi + yi + e) / 2 : Nat) : Int) := tdivNat _ 2
  have e5 : Int.tmod ((xi + yi + e : Nat) : Int) 2 = (((xi + yi + e) % 2 : Nat) : Int) := tmodNat _ 2
  have e6 : IntKind.wrap .i64 (((xi + yi + e) / 2 : Nat) : Int) = (((xi + yi + e) / 2 : Nat) : Int) := wrap_i64 _ (by omega)
  have lift : ∀ (o : Option Addr) (u : List Value) (M : Mem), MCells (wmem w0) o u → F0 w0 M → MCells M o u := fun o u M h hM => by
    obtain ⟨ad, h1, h2⟩ := h
    exact ⟨ad, h1, fun j v hv => by
      have := h2 j v hv
      unfold Mem.cell? at this ⊢
      cases hc : wmem w0 (ad.add j).block with
      | none => rw [hc] at this; cases this
      | some o => rw [hM _ _ hc]; rw [hc] at this; exact this⟩
  have sa : ∃ ad, oa = some ad := ⟨ha.choose, ha.choose_spec.1⟩
  have sb : ∃ ad, ob = some ad := ⟨hb.choose, hb.choose_spec.1⟩
  refine (xgo_sound hm hF hfin 30 _ _ _ _ [] [] _ (addRound oa ob n c d i e m xi yi M l kt) (paid_cons (fun _ => ⟨?_, ?_⟩) paid_nil) (fun a ha => by cases ha)).2
  · simp only [hold_cons, hold_nil, and_true, Int.toNat_natCast]
    refine ⟨fun _ _ => decide_eq_true (by omega), fun _ _ => ⟨by omega, by omega⟩, fun _ _ => ?_, fun K hK => ?_, fun _ _ => ⟨by omega, by omega⟩, fun _ _ => ?_, fun K hK => ?_, fun _ _ => by omega, fun _ _ => ⟨by omega, by omega⟩, fun _ _ => by omega⟩
    · obtain ⟨ad, rfl⟩ := sa; rfl
    · exact lift _ _ _ (mcells_at ha hxv) hK
    · obtain ⟨ad, rfl⟩ := sb; rfl
    · exact lift _ _ _ (mcells_at hb hyv) hK
  · refine Ok.weaken hF [2] (stA oa ob n c d (i + 1) ((xi + yi + e) / 2) (m + 1) (l ++ [(xi + yi + e) % 2])) ?_ ?_ rfl ⟨?_, ?_, trivial⟩ next
    · refine ⟨congrArg (fun z => some (SV.v (Value.int IntKind.i64 z))) e1, congrArg (fun z => some (SV.v (Value.int IntKind.i64 z))) (by rw [e2, e3, e4, e6]), rfl, rfl, rfl, trivial⟩
    · refine ⟨?_, trivial⟩
      show some (HO.row 3 1 (m + 1) (List.map SV.v (bl l) ++ [SV.v (Value.int IntKind.i64 (Int.tmod (IntKind.wrap IntKind.i64 (IntKind.wrap IntKind.i64 ((xi : Int) + yi) + e)) 2))])) = some (HO.row 3 1 (m + 1) (renL [2] ((bl (l ++ [(xi + yi + e) % 2])).map SV.v)))
      rw [e2, e3, e5, bl_snoc, renL_mapv]
    · simp [stA, wsAllT, ws]
    · exact wsL_mapv _ _
end Go.Proofs.Ytcipmpamhffclaa

namespace Go.Pl
/-- The sum of bits, one bit more. -/
def adb : List Nat → List Nat → Nat → List Nat
  | x :: xs, y :: ys, e => (x + y + e) % 2 :: adb xs ys ((x + y + e) / 2)
  | _, _, e => [e]
end Go.Pl
namespace Go.Proofs.Ytcipmpamhffclaa
open Go.Sx Go.Pl Go.RowKit
theorem addStart (oa ob : Option Addr) (n c d : Nat) : (xgo Try.prog X (bodyOf Try.f31) 38 CD [] 50 [] (Tree.nil) [.at []] ⟨argsTm 0 [.slice oa n c, .slice ob n d], []⟩ [] []) =
  some
  [Leaf2.mk [] []
      [It.at [(0 : Nat), (1 : Nat), (0 : Nat), (1 : Nat), (1 : Nat), (1 : Nat)], It.blk (0 : Nat),
        It.at [(1 : Nat), (1 : Nat), (1 : Nat), (1 : Nat)]]
      (St.mk
        [((7 : Nat), SV.v (Value.int IntKind.i64 (0 : Int))), ((6 : Nat), SV.v (Value.int IntKind.i64 (0 : Int))),
          ((5 : Nat), SV.o (0 : Nat)), ((9 : Nat), SV.o (0 : Nat)),
          ((4 : Nat), SV.v (Value.slice none (0 : Nat) (0 : Nat))), ((0 : Nat), SV.v (Value.slice oa n c)),
          ((1 : Nat), SV.v (Value.slice ob n d))]
        [HO.row (3 : Nat) (1 : Nat) (0 : Nat) []])]
 := by kernel_rfl

theorem addEnd (oa ob : Option Addr) (n c d i e m : Nat) (l : List Nat) : (((xgo Try.prog X (bodyOf Try.f31) 38 CD [] 30 [.f] (.nil) [.at qA, .rnd qA 1, .blk 0, .at [1,1,1,1]] (stA oa ob n c d i e m l) [] []).bind (ends Try.prog Try.f31.results.toList)).bind plainE) =
  some
  [EndP.mk []
      [fun _ => decide ((↑i : Int) < (↑n : Int)) = false, fun _ =>
        (m + (1 : Nat)) * (8 : Nat) ≤ (140737488355328 : Nat) ∧ m + (1 : Nat) ≤ (140737488355328 : Nat), fun _ =>
        List.map (fun x => SV.v x) (bl l) ++ [SV.v (Value.int IntKind.i64 (↑e : Int))] =
          List.map (fun x => SV.v x)
            (unv (List.map (fun x => SV.v x) (bl l) ++ [SV.v (Value.int IntKind.i64 (↑e : Int))]))]
      (Res.r (3 : Nat) (1 : Nat) (m + (1 : Nat))
        (unv (List.map (fun x => SV.v x) (bl l) ++ [SV.v (Value.int IntKind.i64 (↑e : Int))])))] := by kernel_rfl

theorem add_loop {w : World} (oa ob : Option Addr) (n c d : Nat) (xs ys : List Nat) (hn : n ≤ 900) (hxs : xs.length = n) (hys : ys.length = n) (hx1 : ∀ x ∈ xs, x ≤ 1) (hy1 : ∀ y ∈ ys, y ≤ 1) (ha : MCells (wmem w) oa (bl xs)) (hb : MCells (wmem w) ob (bl ys)) (R : Res → Prop)
    (hR : R (.r 3 1 (n + 1) (bl (adb xs ys 0)))) : ∀ (k i e : Nat) (l : List Nat), i + k = n → e ≤ 1 → l ++ adb (xs.drop i) (ys.drop i) e = adb xs ys 0 →
    Ok Try.prog (bodyOf Try.f31) 38 (F0 w) w (bodyPost Try.prog Try.f31 fun E w' => ∃ v r, E = .returned v ∧ R r ∧ r.ok w w' v ∧ Below w.heap.size w w') (.rnd qA (k + 2) :: [.blk 0, .at [1,1,1,1]]) (stA oa ob n c d i e i l)
  | 0, i, e, l, hi, he, hl => by
    have hi : i = n := by omega
    subst hi
    refine Ok.rnd (ok_plain hm (F0.mono w) (fun _ h => h) 30 _ _ _ _ (addEnd oa ob _ c d _ e _ l) ⟨fun _ => ⟨?_, ?_⟩, trivial⟩)
    · simp only [hold_cons, hold_nil, and_true]
      refine ⟨fun _ _ => decide_eq_false (by omega), fun _ _ => ⟨by omega, by omega⟩, fun _ _ => ?_⟩
      rw [bl_snoc, unv_mapv]
    · rw [bl_snoc, unv_mapv]
      have h1 : xs.drop xs.length = [] := List.drop_length
      rw [← hxs] at hl
      rw [h1] at hl
      have h2 : adb [] (ys.drop xs.length) e = [e] := by cases ys.drop xs.length <;> rfl
      rw [h2] at hl
      rw [hl]
      exact hR
  | k + 1, i, e, l, hi, he, hl => by
    have hix : i < xs.length := by omega
    have hiy : i < ys.length := by omega
    have h1 : xs[i]? = some xs[i] := List.getElem?_eq_getElem hix
    have h2 : ys[i]? = some ys[i] := List.getElem?_eq_getElem hiy
    have g1 := hx1 _ (List.getElem_mem hix)
    have g2 := hy1 _ (List.getElem_mem hiy)
    refine Ok.rnd (add_round finB oa ob n c d i e i xs[i] ys[i] (k + 1) xs ys l _ (by omega) (by omega) (by omega) h1 h2 g1 g2 he ha hb ?_)
    refine add_loop oa ob n c d xs ys hn hxs hys hx1 hy1 ha hb R hR k (i + 1) _ _ (by omega) (by omega) ?_
    rw [← hl, List.drop_eq_getElem_cons hix, List.drop_eq_getElem_cons hiy]
    simp [adb]
end Go.Proofs.Ytcipmpamhffclaa

namespace Go.Pl
/-- Values as bits. -/
def unbl (l : List Value) : List Nat := l.map fun v => (unU v).getD 0
theorem unbl_bl (l : List Nat) : unbl (bl l) = l := by
  induction l with
  | nil => rfl
  | cons x r ih =>
    simp only [unbl, bl, List.map_map, List.map_cons] at ih ⊢
    rw [ih]
    simp [unU]
theorem bl_length (l : List Nat) : (bl l).length = l.length := by simp [bl]
end Go.Pl
namespace Go.Proofs.Ytcipmpamhffclaa
open Go.Sx Go.Pl Go.RowKit
theorem refadd_ok (w : World) (vx vy : Value) (n : Nat) (xs ys : List Nat) (hn : n ≤ 900) (hn0 : 0 < n) (hxs : xs.length = n) (hys : ys.length = n) (hx1 : ∀ x ∈ xs, x ≤ 1) (hy1 : ∀ y ∈ ys, y ≤ 1)
    (hx : reads (wmem w) n (bl xs) vx) (hy : reads (wmem w) n (bl ys) vy) :
    Calls Try.prog 31 [vx, vy].toArray w (fun E w' => ∃ v, E = .returned v ∧ Res.ok w w' (.r 3 1 (n + 1) (bl (adb xs ys 0))) v ∧ Below w.heap.size w w') := by
  obtain ⟨oa, c, rfl, ha⟩ := hx
  obtain ⟨ob, d, rfl, hb⟩ := hy
  have ha : MCells (wmem w) oa (bl xs) := by
    rcases ha with ha | ha
    · have := bl_length xs
      rw [ha] at this
      simp only [List.length_nil] at this
      omega
    · exact ha
  have hb : MCells (wmem w) ob (bl ys) := by
    rcases hb with hb | hb
    · have := bl_length ys
      rw [hb] at this
      simp only [List.length_nil] at this
      omega
    · exact hb
  refine con_end (calls_of_ok (B := bodyOf Try.f31) (n := 38) Try.func31 (by kernel_rfl) rfl rfl (F := F0 w) (fun _ _ h => h) ?_)
  have hF := F0.mono w
  refine (xgo_sound hm hF finB 50 _ _ _ _ [] [] _ (addStart oa ob n c d) (paid_cons (fun _ => ⟨?_, ?_⟩) paid_nil) (fun a ha => by cases ha)).2
  · simp only [hold_nil]
  · refine Ok.weaken hF [0] (stA oa ob n c d 0 0 0 []) ⟨rfl, rfl, rfl, rfl, rfl, trivial⟩ ⟨rfl, trivial⟩ rfl ⟨?_, ?_, trivial⟩ ?_
    · simp [stA, wsAllT, ws]
    · exact wsL_mapv _ _
    · exact Ok.loop (n + 2) (by kernel_rfl) (add_loop oa ob n c d xs ys hn hxs hys hx1 hy1 ha hb (fun r => r = .r 3 1 (n + 1) (bl (adb xs ys 0))) rfl n 0 0 [] (by omega) (by omega) rfl)
end Go.Proofs.Ytcipmpamhffclaa
