/- The texts Z78 .. Z81 of this proof, one behind the other. -/
import Derived.Test.YtlmjdcbhpffanaaM3
import Derived.Test.YtlmjdcbhpffanaaM1
/- The rows at which a lookup isn't met. -/
namespace Go.Pl
open Go.Sx
noncomputable def tK (l : List Nat) (ns : List Int) : List Int := [(limb (tkN l ns 0) 0 : Int), (limb (tkN l ns 0) 1 : Int), (limb (tkN l ns 0) 2 : Int), (limb (tkN l ns 0) 3 : Int), (limb (tkN l ns 1) 0 : Int), (limb (tkN l ns 1) 1 : Int), (limb (tkN l ns 1) 2 : Int), (limb (tkN l ns 1) 3 : Int), (limb (tkN l ns 2) 0 : Int), (limb (tkN l ns 2) 1 : Int), (limb (tkN l ns 2) 2 : Int), (limb (tkN l ns 2) 3 : Int), (limb (tkN l ns 3) 0 : Int), (limb (tkN l ns 3) 1 : Int), (limb (tkN l ns 3) 2 : Int), (limb (tkN l ns 3) 3 : Int)]
noncomputable def keysT (rows : List (List Nat)) (tabs : List Int) : List (List Int) := rows.foldl (fun ks r => mput ks (tK r tabs)) []
noncomputable def missT (ks : List (List Int)) (ins : List Int) : Int → List (List Nat) → List Int
  | i, r :: t => (bif mhas ks (tK r ins) then [] else [i]) ++ missT ks ins (i + 1) t
  | _, [] => []
noncomputable def lookV (rows : List (List Nat)) (ins tabs : List Int) : List Int := missT (keysT rows tabs) ins 0 rows
structure lLo (nr ni nt : Nat) (cr ci ct : Nat → Nat → Cell) (k : List (List Nat) → List Int → List Int → Prop) : Prop where
  h : ∃ (rows : List (List Nat)) (ins tabs : List Int), (nr = rows.length ∧ IsC nr 1 cr (cT rows)) ∧ (ni = ins.length ∧ IsC ni 1 ci (cI ins)) ∧ (nt = tabs.length ∧ IsC nt 1 ct (cI tabs)) ∧ rows.length ≤ 4000000000000 ∧ ins.length ≤ 4 ∧ tabs.length ≤ 4 ∧ (∀ r ∈ rows, (∀ g ∈ ins, 0 ≤ g ∧ g < (r.length : Int)) ∧ ∀ g ∈ tabs, 0 ≤ g ∧ g < (r.length : Int)) ∧ k rows ins tabs
theorem missT_len (ks : List (List Int)) (ins : List Int) : ∀ (rows : List (List Nat)) (i : Int), (missT ks ins i rows).length ≤ rows.length
  | [], _ => Nat.le_refl _
  | r :: t, i => by
    have := missT_len ks ins t (i + 1)
    rw [missT, List.length_append, List.length_cons]
    cases mhas ks (tK r ins) <;> simp <;> omega
end Go.Pl
namespace Go.Proofs.Ytlmjdcbhpffanaa
open Go.Sx Go.Pl
set_option linter.unusedVariables false
set_option maxRecDepth 100000
theorem slkS (b0 b1 b2 : Bool) (rows : List (List Nat)) (ins tabs : List Int) (K : List It → St → Prop) (R : SV → List HO → Prop) : W (xwp Try.prog X K77 [] 60 (fxOf Try.f51 [] [⟨[0,1,0,1,1], [16,15,14,5,3,0], []⟩, ⟨[0,1,0,1,1,1,1], [29,28,27,8,5,3], [(8,3,1)]⟩]) [] [.at []] ⟨argsS 0 [.x 0 [], .agg [.x 1 [], .x 2 []]], [.ext b0 (.s false 1 rows.length (cT rows)), .ext b1 (.s false 1 ins.length (cI ins)), .ext b2 (.s false 1 tabs.length (cI tabs))]⟩ K R) = W (K [.at [0,1,0,1,1], .blk 0, .at [1,1,1]] (St.mk [(16, .v (vi64 0)), (15, .v (vi64 (↑(List.length rows) : Int))), (14, .x 0 []), (5, .m 1), (3, .p 2 0), (0, .x 0 [])] [.ext b0 (.s false 1 (List.length rows) (cT rows)), .mp true [IntKind.u64, IntKind.u64, IntKind.u64, IntKind.u64, IntKind.u64, IntKind.u64, IntKind.u64, IntKind.u64, IntKind.u64, IntKind.u64, IntKind.u64, IntKind.u64, IntKind.u64, IntKind.u64, IntKind.u64, IntKind.u64] [] Mc.unit, .cells [.x 3 [], .x 4 []] 86, .ext b1 (.s false 1 (List.length ins) (cI ins)), .ext b2 (.s false 1 (List.length tabs) (cI tabs))])) := by kernel_rfl
theorem slk1 (b0 b1 b2 : Bool) (rows : List (List Nat)) (ins tabs : List Int) (kl : List (List Int)) (k M : Nat) (K : List It → St → Prop) (R : SV → List HO → Prop) : W (xwp Try.prog X K77 [] 60 (fxOf Try.f51 [] [⟨[0,1,0,1,1], [16,15,14,5,3,0], []⟩, ⟨[0,1,0,1,1,1,1], [29,28,27,8,5,3], [(8,3,1)]⟩]) [] (.at [0,0,1,0,1,1] :: .rnd [0,0,1,0,1,1] M :: [.blk 0, .at [1,1,1]]) ⟨[(16, .v (.int .i64 (k : Int))), (15, .v (.int .i64 (rows.length : Int))), (14, .x 0 []), (5, .m 1), (3, .p 2 0), (0, .x 0 [])], [.ext b0 (.s false 1 rows.length (cT rows)), .mp true [.u64, .u64, .u64, .u64, .u64, .u64, .u64, .u64, .u64, .u64, .u64, .u64, .u64, .u64, .u64, .u64] kl .unit, .cells [.x 3 [], .x 4 []] 86, .ext b1 (.s false 1 ins.length (cI ins)), .ext b2 (.s false 1 tabs.length (cI tabs))]⟩ K R) = W (bif decide ((↑k : Int) < (↑(List.length rows) : Int)) then (∀ M : Mem, (0 : Int) ≤ (↑k : Int) ∧ (↑k : Int) < (↑(List.length rows) : Int)) ∧ (∀ M : Mem, k < List.length rows) ∧ (∀ M : Mem, k < List.length rows) ∧ lTk (List.length (gT rows k)) (List.length tabs) (cE (gT rows k)) (cI tabs) fun (l : List Nat) (ns : List Int) => K [.rnd [0,0,1,0,1,1] M, .blk 0, .at [1,1,1]] (St.mk [(16, .v (vi64 (IntKind.wrap .i64 ((↑k : Int) + (1 : Int))))), (15, .v (vi64 (↑(List.length rows) : Int))), (14, .x 0 []), (5, .m 1), (3, .p 2 0), (0, .x 0 [])] [.ext b0 (.s false 1 (List.length rows) (cT rows)), .mp true [IntKind.u64, IntKind.u64, IntKind.u64, IntKind.u64, IntKind.u64, IntKind.u64, IntKind.u64, IntKind.u64, IntKind.u64, IntKind.u64, IntKind.u64, IntKind.u64, IntKind.u64, IntKind.u64, IntKind.u64, IntKind.u64] (mput kl [(↑(limb (tkN l ns 0) 0) : Int), (↑(limb (tkN l ns 0) 1) : Int), (↑(limb (tkN l ns 0) 2) : Int), (↑(limb (tkN l ns 0) 3) : Int), (↑(limb (tkN l ns 1) 0) : Int), (↑(limb (tkN l ns 1) 1) : Int), (↑(limb (tkN l ns 1) 2) : Int), (↑(limb (tkN l ns 1) 3) : Int), (↑(limb (tkN l ns 2) 0) : Int), (↑(limb (tkN l ns 2) 1) : Int), (↑(limb (tkN l ns 2) 2) : Int), (↑(limb (tkN l ns 2) 3) : Int), (↑(limb (tkN l ns 3) 0) : Int), (↑(limb (tkN l ns 3) 1) : Int), (↑(limb (tkN l ns 3) 2) : Int), (↑(limb (tkN l ns 3) 3) : Int)]) Mc.unit, .cells [.x 3 [], .x 4 []] 86, .ext b1 (.s false 1 (List.length ins) (cI ins)), .ext b2 (.s false 1 (List.length tabs) (cI tabs))]) else K [.at [0,1,0,1,1,1,1], .blk 2, .at [1,1,1,1,1]] (St.mk [(29, .v (vi64 0)), (28, .v (vi64 (↑(List.length rows) : Int))), (27, .x 0 []), (8, .o 1), (5, .m 2), (3, .p 3 0)] [.ext b0 (.s false 1 (List.length rows) (cT rows)), .rowc 3 1 0 (.lit 1 []), .mp true [IntKind.u64, IntKind.u64, IntKind.u64, IntKind.u64, IntKind.u64, IntKind.u64, IntKind.u64, IntKind.u64, IntKind.u64, IntKind.u64, IntKind.u64, IntKind.u64, IntKind.u64, IntKind.u64, IntKind.u64, IntKind.u64] kl Mc.unit, .cells [.x 4 [], .x 5 []] 86, .ext b1 (.s false 1 (List.length ins) (cI ins)), .ext b2 (.s false 1 (List.length tabs) (cI tabs))])) := by kernel_rfl
theorem slk2 (b0 b1 b2 : Bool) (rows : List (List Nat)) (ins tabs : List Int) (kl : List (List Int)) (os : List Int) (m k M : Nat) (K : List It → St → Prop) (R : SV → List HO → Prop) : W (xwp Try.prog X K77 [] 60 (fxOf Try.f51 [] [⟨[0,1,0,1,1], [16,15,14,5,3,0], []⟩, ⟨[0,1,0,1,1,1,1], [29,28,27,8,5,3], [(8,3,1)]⟩]) [] (.at [0,0,1,0,1,1,1,1] :: .rnd [0,0,1,0,1,1,1,1] M :: [.blk 2, .at [1,1,1,1,1]]) ⟨[(29, .v (.int .i64 (k : Int))), (28, .v (.int .i64 (rows.length : Int))), (27, .x 0 []), (8, .o 1), (5, .m 2), (3, .p 3 0)], [.ext b0 (.s false 1 rows.length (cT rows)), .rowc 3 1 m (.fn (cI os)), .mp true [.u64, .u64, .u64, .u64, .u64, .u64, .u64, .u64, .u64, .u64, .u64, .u64, .u64, .u64, .u64, .u64] kl .unit, .cells [.x 4 [], .x 5 []] 86, .ext b1 (.s false 1 ins.length (cI ins)), .ext b2 (.s false 1 tabs.length (cI tabs))]⟩ K R) = W (bif decide ((↑k : Int) < (↑(List.length rows) : Int)) then (∀ M : Mem, (0 : Int) ≤ (↑k : Int) ∧ (↑k : Int) < (↑(List.length rows) : Int)) ∧ (∀ M : Mem, k < List.length rows) ∧ (∀ M : Mem, k < List.length rows) ∧ lTk (List.length (gT rows k)) (List.length ins) (cE (gT rows k)) (cI ins) fun (l : List Nat) (ns : List Int) => (∀ M : Mem, 0 ≤ 0) ∧ bif !mhas kl [(↑(limb (tkN l ns 0) 0) : Int), (↑(limb (tkN l ns 0) 1) : Int), (↑(limb (tkN l ns 0) 2) : Int), (↑(limb (tkN l ns 0) 3) : Int), (↑(limb (tkN l ns 1) 0) : Int), (↑(limb (tkN l ns 1) 1) : Int), (↑(limb (tkN l ns 1) 2) : Int), (↑(limb (tkN l ns 1) 3) : Int), (↑(limb (tkN l ns 2) 0) : Int), (↑(limb (tkN l ns 2) 1) : Int), (↑(limb (tkN l ns 2) 2) : Int), (↑(limb (tkN l ns 2) 3) : Int), (↑(limb (tkN l ns 3) 0) : Int), (↑(limb (tkN l ns 3) 1) : Int), (↑(limb (tkN l ns 3) 2) : Int), (↑(limb (tkN l ns 3) 3) : Int)] then (∀ M : Mem, (m + 1) * 8 ≤ 140737488355328 ∧ m + 1 ≤ 140737488355328) ∧ K [.rnd [0,0,1,0,1,1,1,1] M, .blk 2, .at [1,1,1,1,1]] (St.mk [(29, .v (vi64 (IntKind.wrap .i64 ((↑k : Int) + (1 : Int))))), (28, .v (vi64 (↑(List.length rows) : Int))), (27, .x 0 []), (8, .o 1), (5, .m 2), (3, .p 3 0)] [.ext b0 (.s false 1 (List.length rows) (cT rows)), .rowc 3 1 (m + 1) (.app m (.fn (cI os)) (.lit 1 [.v (vi64 (↑k : Int))])), .mp true [IntKind.u64, IntKind.u64, IntKind.u64, IntKind.u64, IntKind.u64, IntKind.u64, IntKind.u64, IntKind.u64, IntKind.u64, IntKind.u64, IntKind.u64, IntKind.u64, IntKind.u64, IntKind.u64, IntKind.u64, IntKind.u64] kl Mc.unit, .cells [.x 4 [], .x 5 []] 86, .ext b1 (.s false 1 (List.length ins) (cI ins)), .ext b2 (.s false 1 (List.length tabs) (cI tabs))]) else K [.rnd [0,0,1,0,1,1,1,1] M, .blk 2, .at [1,1,1,1,1]] (St.mk [(29, .v (vi64 (IntKind.wrap .i64 ((↑k : Int) + (1 : Int))))), (28, .v (vi64 (↑(List.length rows) : Int))), (27, .x 0 []), (8, .o 1), (5, .m 2), (3, .p 3 0)] [.ext b0 (.s false 1 (List.length rows) (cT rows)), .rowc 3 1 m (.fn (cI os)), .mp true [IntKind.u64, IntKind.u64, IntKind.u64, IntKind.u64, IntKind.u64, IntKind.u64, IntKind.u64, IntKind.u64, IntKind.u64, IntKind.u64, IntKind.u64, IntKind.u64, IntKind.u64, IntKind.u64, IntKind.u64, IntKind.u64] kl Mc.unit, .cells [.x 4 [], .x 5 []] 86, .ext b1 (.s false 1 (List.length ins) (cI ins)), .ext b2 (.s false 1 (List.length tabs) (cI tabs))]) else R (.o 0) [.rowc 3 1 m (.fn (cI os))]) := by kernel_rfl
theorem slk2_loop (b0 b1 b2 : Bool) (rows : List (List Nat)) (ins tabs : List Int) (hr : rows.length ≤ 4000000000000) (hi : ins.length ≤ 4) (ht : tabs.length ≤ 4) (hg : ∀ r ∈ rows, (∀ g ∈ ins, 0 ≤ g ∧ g < (r.length : Int)) ∧ ∀ g ∈ tabs, 0 ≤ g ∧ g < (r.length : Int)) (Q : SV → List HO → Prop) (hq : Q (.o 0) [.rowc 3 1 (lookV rows ins tabs).length (.fn (cI (lookV rows ins tabs)))]) : ∀ (d k : Nat) (os : List Int), k + d = rows.length → os.length ≤ k → lookV rows ins tabs = os ++ missT (keysT rows tabs) ins (k : Int) (rows.drop k) →
    FOk Try.prog Try.f51 Q (.rnd [0,0,1,0,1,1,1,1] (d + 1) :: [.blk 2, .at [1,1,1,1,1]]) ⟨[(29, .v (.int .i64 (k : Int))), (28, .v (.int .i64 (rows.length : Int))), (27, .x 0 []), (8, .o 1), (5, .m 2), (3, .p 3 0)], [.ext b0 (.s false 1 rows.length (cT rows)), .rowc 3 1 os.length (.fn (cI os)), .mp true [.u64, .u64, .u64, .u64, .u64, .u64, .u64, .u64, .u64, .u64, .u64, .u64, .u64, .u64, .u64, .u64] (keysT rows tabs) .unit, .cells [.x 4 [], .x 5 []] 86, .ext b1 (.s false 1 ins.length (cI ins)), .ext b2 (.s false 1 tabs.length (cI tabs))]⟩
  | 0, k, os, hd, hl, he => by
    refine FOk.rnd (run_sound hm 60 ((slk2 b0 b1 b2 rows ins tabs (keysT rows tabs) os os.length k 0 _ _).mpr ⟨?_⟩))
    rw [cond_dec, if_neg (by omega)]
    rw [show k = rows.length by omega, List.drop_length, missT, List.append_nil] at he
    rw [he] at hq
    exact hq
  | d + 1, k, os, hd, hl, he => by
    have hk : k < rows.length := by omega
    have hgk := hg _ (gT_mem hk)
    refine FOk.rnd (run_sound hm 60 ((slk2 b0 b1 b2 rows ins tabs (keysT rows tabs) os os.length k (d + 1) _ _).mpr ⟨?_⟩))
    rw [cond_dec, if_pos (by omega), wrap_inc _ (by omega)]
    rw [drop_gT hk, missT, show (k : Int) + 1 = ((k + 1 : Nat) : Int) by omega] at he
    refine And.intro (fun _ => by omega) (And.intro (fun _ => by omega) (And.intro (fun _ => by omega) (lTk_mk _ _ hi hgk.1 (And.intro (fun _ => by omega) ?_))))
    show bif !mhas (keysT rows tabs) (tK (gT rows k) ins) then _ else _
    rw [cond_not]
    refine cond_intro (fun h => ?_) (fun h => ?_)
    · rw [h] at he
      exact slk2_loop b0 b1 b2 rows ins tabs hr hi ht hg Q hq d (k + 1) os (by omega) (by omega) he
    · rw [h, cond_false, ← List.append_assoc] at he
      have next := slk2_loop b0 b1 b2 rows ins tabs hr hi ht hg Q hq d (k + 1) (os ++ [(k : Int)]) (by omega) (by simp; omega) he
      rw [List.length_append, List.length_singleton] at next
      exact And.intro (fun _ => by omega) (FOk.cv next ⟨HE.refl _, ⟨rfl, rfl, rfl, cI_snoc _ rfl⟩, HE.refl _, HE.refl _, HE.refl _, HE.refl _, trivial⟩)
theorem slk1_loop (b0 b1 b2 : Bool) (rows : List (List Nat)) (ins tabs : List Int) (hr : rows.length ≤ 4000000000000) (hi : ins.length ≤ 4) (ht : tabs.length ≤ 4) (hg : ∀ r ∈ rows, (∀ g ∈ ins, 0 ≤ g ∧ g < (r.length : Int)) ∧ ∀ g ∈ tabs, 0 ≤ g ∧ g < (r.length : Int)) (Q : SV → List HO → Prop) (hq : Q (.o 0) [.rowc 3 1 (lookV rows ins tabs).length (.fn (cI (lookV rows ins tabs)))]) : ∀ (d k : Nat) (kl : List (List Int)), k + d = rows.length → kl = (rows.take k).foldl (fun ks r => mput ks (tK r tabs)) [] →
    FOk Try.prog Try.f51 Q (.rnd [0,0,1,0,1,1] (d + 1) :: [.blk 0, .at [1,1,1]]) ⟨[(16, .v (.int .i64 (k : Int))), (15, .v (.int .i64 (rows.length : Int))), (14, .x 0 []), (5, .m 1), (3, .p 2 0), (0, .x 0 [])], [.ext b0 (.s false 1 rows.length (cT rows)), .mp true [.u64, .u64, .u64, .u64, .u64, .u64, .u64, .u64, .u64, .u64, .u64, .u64, .u64, .u64, .u64, .u64] kl .unit, .cells [.x 3 [], .x 4 []] 86, .ext b1 (.s false 1 ins.length (cI ins)), .ext b2 (.s false 1 tabs.length (cI tabs))]⟩
  | 0, k, kl, hd, he => by
    refine FOk.rnd (run_sound hm 60 ((slk1 b0 b1 b2 rows ins tabs kl k 0 _ _).mpr ⟨?_⟩))
    rw [cond_dec, if_neg (by omega)]
    rw [show k = rows.length by omega, List.take_length] at he
    subst he
    exact FOk.loop (rows.length + 1) (by kernel_rfl) (FOk.cv (slk2_loop b0 b1 b2 rows ins tabs hr hi ht hg Q hq rows.length 0 [] (by omega) (Nat.le_refl _) rfl) ⟨HE.refl _, ⟨rfl, rfl, rfl, fun k hk => by simp at hk⟩, HE.refl _, HE.refl _, HE.refl _, HE.refl _, trivial⟩)
  | d + 1, k, kl, hd, he => by
    have hk : k < rows.length := by omega
    have hgk := hg _ (gT_mem hk)
    refine FOk.rnd (run_sound hm 60 ((slk1 b0 b1 b2 rows ins tabs kl k (d + 1) _ _).mpr ⟨?_⟩))
    rw [cond_dec, if_pos (by omega), wrap_inc _ (by omega)]
    refine And.intro (fun _ => by omega) (And.intro (fun _ => by omega) (And.intro (fun _ => by omega) (lTk_mk _ _ ht hgk.2 ?_)))
    exact slk1_loop b0 b1 b2 rows ins tabs hr hi ht hg Q hq d (k + 1) (mput kl (tK (gT rows k) tabs)) (by omega) (by rw [take_gT hk, List.foldl_append, ← he]; rfl)
theorem bSlk : Try.f51.body.isSome = true := by kernel_rfl
theorem nSlk : Nat.ble [SV.x 0 [], .agg [.x 1 [], .x 2 []]].length Try.f51.ntmps = true := by kernel_rfl
theorem slk_ok (b0 b1 b2 : Bool) (rows : List (List Nat)) (ins tabs : List Int) (hr : rows.length ≤ 4000000000000) (hi : ins.length ≤ 4) (ht : tabs.length ≤ 4) (hg : ∀ r ∈ rows, (∀ g ∈ ins, 0 ≤ g ∧ g < (r.length : Int)) ∧ ∀ g ∈ tabs, 0 ≤ g ∧ g < (r.length : Int)) (Q : SV → List HO → Prop) (hq : Q (.o 0) [.rowc 3 1 (lookV rows ins tabs).length (.fn (cI (lookV rows ins tabs)))]) : FnOk Try.prog 51 [.x 0 [], .agg [.x 1 [], .x 2 []]] [.ext b0 (.s false 1 rows.length (cT rows)), .ext b1 (.s false 1 ins.length (cI ins)), .ext b2 (.s false 1 tabs.length (cI tabs))] Q := by
  refine fn_of_ok Try.func51 bSlk ?_ ?_
  · exact nSlk
  refine run_sound hm 60 ((slkS b0 b1 b2 rows ins tabs _ _).mpr ⟨?_⟩)
  exact FOk.loop (rows.length + 1) (by kernel_rfl) (slk1_loop b0 b1 b2 rows ins tabs hr hi ht hg Q hq rows.length 0 [] (by omega) rfl)
noncomputable def gSlk : List SV → List HO → Option ((SV → List HO → Prop) → Prop)
  | [.x 0 [], .agg [.x 1 [], .x 2 []]], [.ext _ (.s false 1 nr cr), .ext _ (.s false 1 ni ci), .ext _ (.s false 1 nt ct)] => some fun Q => lLo nr ni nt cr ci ct fun rows ins tabs => Q (.o 0) [.rowc 3 1 (lookV rows ins tabs).length (.fn (cI (lookV rows ins tabs)))]
  | _, _ => none
theorem gSlk_ok (args : List SV) (h : List HO) (tr : (SV → List HO → Prop) → Prop) (Q : SV → List HO → Prop) (hc : gSlk args h = some tr) (ht : tr Q) : FnOk Try.prog 51 args h Q := by
  unfold gSlk at hc
  split at hc
  · simp only [Option.some.injEq] at hc
    subst hc
    obtain ⟨rows, ins, tabs, ⟨rfl, e0⟩, ⟨rfl, e1⟩, ⟨rfl, e2⟩, hr, hi, h4, hg, hq⟩ := ht.h
    exact FnOk.ac (slk_ok _ _ _ rows ins tabs hr hi h4 hg Q hq) ⟨⟨rfl, rfl, rfl, rfl, e0⟩, ⟨rfl, rfl, rfl, rfl, e1⟩, ⟨rfl, rfl, rfl, rfl, e2⟩, trivial⟩
  · cases hc
noncomputable def K78 : Con Try.prog := K77.add 51 gSlk gSlk_ok
end Go.Proofs.Ytlmjdcbhpffanaa
/- A cell that may be copied: its value. -/
namespace Go.Pl
open Go.Sx
noncomputable def cellV (c : Cir) (s : Sht) (so x y : Int) : Nat := fAd so (atS s (gK c.eqs x.toNat).1 (gK c.eqs x.toNat).2 y) 0
end Go.Pl
namespace Go.Proofs.Ytlmjdcbhpffanaa
open Go.Sx Go.Pl
set_option linter.unusedVariables false
set_option maxRecDepth 100000
theorem celS (c : Cir) (s : Sht) (so k : Int) (qs : List (Int × Int × Int)) (x y : Int) (K : List It → St → Prop) (R : SV → List HO → Prop) : W (xwp Try.prog X K78 [] 60 (fxOf Try.f52 [] []) [] [.at []] ⟨argsS 0 [.x 0 [], .agg [.v (.int .i64 x), .v (.int .i64 y)]], [.ext true (.s true 14 1 (fun _ j => flCell c s so k qs j))]⟩ K R) = W ((∀ M : Mem, 0 < 1) ∧ (∀ M : Mem, 0 < 1) ∧ (∀ M : Mem, 0 < 1) ∧ (∀ M : Mem, 0 < 1) ∧ (∀ M : Mem, 0 < 1) ∧ (∀ M : Mem, (0 : Int) ≤ x ∧ x < (↑c.7.length : Int)) ∧ (∀ M : Mem, 0 < 1) ∧ (∀ M : Mem, Int.toNat x < List.length c.7) ∧ (∀ M : Mem, 0 + 2 ≤ 2) ∧ (∀ M : Mem, 0 < 1) ∧ (∀ M : Mem, 0 < 1) ∧ (∀ M : Mem, 0 < 1) ∧ (∀ M : Mem, 0 < 1) ∧ (∀ M : Mem, 0 < 1) ∧ (∀ M : Mem, 0 < 1) ∧ (∀ M : Mem, 0 < 1) ∧ (∀ M : Mem, 0 < 1) ∧ (∀ M : Mem, 0 < 1) ∧ (∀ M : Mem, 0 < 1) ∧ lS s.1.length s.2.length s.3.length s.4.length (cT s.1) (cT s.2) (cT s.3) (cP s.4) fun (s : Sht) => c2C (eI (atS s (gK c.7 (Int.toNat x)).1 (gK c.7 (Int.toNat x)).2 y)) [(0 : Int), (0 : Int), (0 : Int), (0 : Int)] fun (a b : Nat) => (∀ M : Mem, 0 + 4 ≤ 4) ∧ R ((eS (fAd so a b))) []) := by kernel_rfl
theorem bCel : Try.f52.body.isSome = true := by kernel_rfl
theorem nCel (x y : Int) : Nat.ble [SV.x 0 [], .agg [.v (.int .i64 x), .v (.int .i64 y)]].length Try.f52.ntmps = true := by kernel_rfl
theorem cel_ok (c : Cir) (hc : c.ok) (s : Sht) (hs : s.ok) (so k : Int) (qs : List (Int × Int × Int)) (x y : Int) (hx : 0 ≤ x ∧ x < (c.eqs.length : Int)) (Q : SV → List HO → Prop) (hq : Q (eS (cellV c s so x y)) []) : FnOk Try.prog 52 [.x 0 [], .agg [.v (.int .i64 x), .v (.int .i64 y)]] [.ext true (.s true 14 1 (fun _ j => flCell c s so k qs j))] Q := by
  refine fn_of_ok Try.func52 bCel ?_ ?_
  · exact nCel x y
  refine run_sound hm 60 ((celS c s so k qs x y _ _).mpr ⟨?_⟩)
  refine And.intro (fun _ => by omega) (And.intro (fun _ => by omega) (And.intro (fun _ => by omega) (And.intro (fun _ => by omega) (And.intro (fun _ => by omega) (And.intro (fun _ => by omega) (And.intro (fun _ => by omega) (And.intro (fun _ => by omega) (And.intro (fun _ => by omega) (And.intro (fun _ => by omega) (And.intro (fun _ => by omega) (And.intro (fun _ => by omega) (And.intro (fun _ => by omega) (And.intro (fun _ => by omega) (And.intro (fun _ => by omega) (And.intro (fun _ => by omega) (And.intro (fun _ => by omega) (And.intro (fun _ => by omega) (And.intro (fun _ => by omega) (lS_mk s hs ⟨⟨_, 0, rfl, eI_zero.symm, atS_top hs _ _ _, by simp only [top]; omega, And.intro (fun _ => by omega) hq⟩⟩)))))))))))))))))))
noncomputable def gCel : List SV → List HO → Option ((SV → List HO → Prop) → Prop)
  | [.x 0 [], .agg [.v (.int .i64 x), .v (.int .i64 y)]], [.ext true (.s true 14 1 fk)] => some fun Q => lFk fk fun c s so k qs => (0 ≤ x ∧ x < (c.eqs.length : Int)) ∧ Q (eS (cellV c s so x y)) []
  | _, _ => none
theorem gCel_ok (args : List SV) (h : List HO) (tr : (SV → List HO → Prop) → Prop) (Q : SV → List HO → Prop) (hc : gCel args h = some tr) (ht : tr Q) : FnOk Try.prog 52 args h Q := by
  unfold gCel at hc
  split at hc
  · simp only [Option.some.injEq] at hc
    subst hc
    obtain ⟨c, s, so, k, qs, e, hk, hs, h0, h4, hx, hq⟩ := ht.h
    exact FnOk.ac (cel_ok c hk s hs so k qs _ _ hx Q hq) ⟨⟨rfl, rfl, rfl, rfl, e⟩, trivial⟩
  · cases hc
noncomputable def K79 : Con Try.prog := K78.add 52 gCel gCel_ok
end Go.Proofs.Ytlmjdcbhpffanaa
/- Right circuits: what follows (plain). -/
namespace Go.Pl
open Go.Sx
theorem chkC_len {c : Cir} (h : chkC c = 0) : c.nodes.length ≤ 64 ∧ c.gates.length ≤ 16 ∧ c.looks.length ≤ 4 ∧ c.eqs.length ≤ 8 := by
  obtain ⟨h0, hg⟩ := chkC_zero h
  have h1 : cntOk c := of_decide_eq_true (goodB_all hg).1
  refine ⟨?_, h1.2.2.2.2⟩
  rw [chkN] at h0
  split at h0
  · cases h0
  · rename_i hn
    exact Nat.le_of_not_lt fun hh => hn (.inl hh)
end Go.Pl
namespace Go.Pl
open Go.Sx
end Go.Pl
namespace Go.Pl
open Go.Sx
end Go.Pl
namespace Go.Pl
open Go.Sx
theorem qsN_mem : ∀ (l : List Nd) (out : List (Int × Int × Int)) (q : Int × Int × Int), q ∈ qsN out l ↔ q ∈ out ∨ ∃ n ∈ l, (2 ≤ n.op ∧ n.op ≤ 4) ∧ q = (n.op, n.a, n.b)
  | [], out, q => by
    rw [qsN]
    exact ⟨.inl, fun h => h.elim id (fun ⟨n, hn, _⟩ => by cases hn)⟩
  | x :: r, out, q => by
    by_cases h1 : 2 ≤ x.op ∧ x.op ≤ 4
    · by_cases h2 : (x.op, x.a, x.b) ∈ out
      · rw [qsN_old out r h2, qsN_mem r]
        constructor
        · rintro (h | ⟨n, hn, h⟩)
          · exact .inl h
          · exact .inr ⟨n, List.mem_cons_of_mem _ hn, h⟩
        · rintro (h | ⟨n, hn, h, e⟩)
          · exact .inl h
          · rcases List.mem_cons.1 hn with rfl | hn
            · exact .inl (e ▸ h2)
            · exact .inr ⟨n, hn, h, e⟩
      · rw [qsN_new out r h1 h2, qsN_mem r]
        constructor
        · rintro (h | ⟨n, hn, h⟩)
          · rcases List.mem_append.1 h with h | h
            · exact .inl h
            · exact .inr ⟨x, List.mem_cons_self, h1, List.mem_singleton.1 h⟩
          · exact .inr ⟨n, List.mem_cons_of_mem _ hn, h⟩
        · rintro (h | ⟨n, hn, h, e⟩)
          · exact .inl (List.mem_append_left _ h)
          · rcases List.mem_cons.1 hn with rfl | hn
            · exact .inl (List.mem_append_right _ (List.mem_singleton.2 e))
            · exact .inr ⟨n, hn, h, e⟩
    · rw [qsN_no out r h1, qsN_mem r]
      constructor
      · rintro (h | ⟨n, hn, h⟩)
        · exact .inl h
        · exact .inr ⟨n, List.mem_cons_of_mem _ hn, h⟩
      · rintro (h | ⟨n, hn, h, e⟩)
        · exact .inl h
        · rcases List.mem_cons.1 hn with rfl | hn
          · exact absurd h h1
          · exact .inr ⟨n, hn, h, e⟩
theorem rot_bnd {c : Cir} (h : chkC c = 0) {n : Nd} (hn : n ∈ c.nodes) (h1 : 2 ≤ n.op) (h2 : n.op ≤ 4) : -3 ≤ n.b ∧ n.b ≤ 3 := by
  obtain ⟨h0, _⟩ := chkC_zero h
  rw [chkN] at h0
  split at h0
  · cases h0
  · rename_i hno
    refine Classical.byContradiction fun hb => hno (.inr (.inr (List.any_eq_true.2 ⟨n, hn, ?_⟩)))
    rw [badN, qryN, decide_eq_true ⟨h1, h2⟩, Bool.true_and]
    exact decide_eq_true (by omega)
theorem frF_le {B : Int} : ∀ (l : List (Int × Int × Int)) (m : Int), (∀ q ∈ l, -3 ≤ q.2.2 ∧ q.2.2 ≤ 3) → (l.foldl frQ m ≤ B ↔ m ≤ B ∧ ∀ q ∈ l, -q.2.2 ≤ B)
  | [], m, _ => by simp
  | x :: r, m, h => by
    have hx := h x List.mem_cons_self
    rw [List.foldl_cons, frF_le r _ fun q hq => h q (List.mem_cons_of_mem _ hq), List.forall_mem_cons, frQ, wrap_in _ (by omega)]
    constructor
    · rintro ⟨h1, h2⟩
      split at h1
      · exact ⟨by omega, by omega, h2⟩
      · exact ⟨h1, by omega, h2⟩
    · rintro ⟨h1, h2, h3⟩
      refine ⟨?_, h3⟩
      split
      · omega
      · exact h1
theorem toF_lt {B k : Int} (hk : 0 ≤ usN k ∧ usN k ≤ 2000) : ∀ (l : List (Int × Int × Int)) (m : Int), (∀ q ∈ l, -3 ≤ q.2.2 ∧ q.2.2 ≤ 3) → (B < l.foldl (toQ k) m ↔ B < m ∧ ∀ q ∈ l, B < usN k - q.2.2)
  | [], m, _ => by simp
  | x :: r, m, h => by
    have hx := h x List.mem_cons_self
    rw [List.foldl_cons, toF_lt hk r _ fun q hq => h q (List.mem_cons_of_mem _ hq), List.forall_mem_cons, toQ, wrap_in _ (by omega)]
    constructor
    · rintro ⟨h1, h2⟩
      split at h1
      · exact ⟨by omega, h1, h2⟩
      · exact ⟨h1, by omega, h2⟩
    · rintro ⟨h1, h2, h3⟩
      refine ⟨?_, h3⟩
      split
      · exact h2
      · exact h1
theorem coneQ_all {c : Cir} {x : Int} {p : Int → Prop} : (∀ q ∈ coneQ c x, p q.2.2) ↔ ∀ g ∈ coneN c.nodes x, (2 ≤ (gN c.nodes g.toNat).op ∧ (gN c.nodes g.toNat).op ≤ 4) → p (gN c.nodes g.toNat).b := by
  constructor
  · intro h g hg ho
    refine h ((gN c.nodes g.toNat).op, (gN c.nodes g.toNat).a, (gN c.nodes g.toNat).b) ((qsN_mem _ _ _).2 (.inr ⟨_, ?_, ho, rfl⟩))
    exact List.mem_map.2 ⟨g, hg, rfl⟩
  · intro h q hq
    rcases (qsN_mem _ _ _).1 hq with hq | ⟨n, hn, ho, rfl⟩
    · cases hq
    · obtain ⟨g, hg, rfl⟩ := List.mem_map.1 hn
      exact h g hg ho
theorem cone_gN {c : Cir} {x g : Int} (h : g ∈ coneN c.nodes x) : gN c.nodes g.toNat ∈ c.nodes := by
  have := coneN_in c.nodes x g h
  rw [gN, List.getD_eq_getElem?_getD, List.getElem?_eq_getElem (by omega)]
  exact List.getElem_mem (by omega)
theorem coneQ_rot {c : Cir} (h : chkC c = 0) (x : Int) : ∀ q ∈ coneQ c x, -3 ≤ q.2.2 ∧ q.2.2 ≤ 3 :=
  (coneQ_all (p := fun z => -3 ≤ z ∧ z ≤ 3)).2 fun _ hg ho => rot_bnd h (cone_gN hg) ho.1 ho.2
theorem usN_bnd {k : Int} (h : k ≤ 10) : 0 ≤ usN k ∧ usN k ≤ 1020 := by
  rw [usN]
  split
  · omega
  · rename_i h2
    have : k = 2 ∨ k = 3 ∨ k = 4 ∨ k = 5 ∨ k = 6 ∨ k = 7 ∨ k = 8 ∨ k = 9 ∨ k = 10 := by omega
    rcases this with rfl | rfl | rfl | rfl | rfl | rfl | rfl | rfl | rfl <;> decide
theorem rows_bnd {c : Cir} (h : chkC c = 0) {k x : Int} (hk : k ≤ 10) : 0 ≤ (rowsV c k x).1 ∧ (rowsV c k x).2 ≤ usN k := by
  have hu := usN_bnd hk
  have hr := coneQ_rot h x
  rw [rowsV]
  split
  · rw [rowsQ]
    split
    · exact ⟨Int.le_refl 0, hu.1⟩
    · refine ⟨((frF_le _ 0 hr).1 (Int.le_refl _)).1, ?_⟩
      refine Int.not_lt.1 fun hh => ?_
      have := ((toF_lt ⟨hu.1, by omega⟩ _ _ hr).1 hh).1
      omega
  · exact ⟨Int.le_refl 0, hu.1⟩
end Go.Pl
/- All faults: plain. -/
namespace Go.Pl
open Go.Sx
noncomputable def gateR (rows : List (List Nat)) (g i : Int) : Nat → Int → List (Int × Int × Int)
  | 0, _ => []
  | d + 1, r => (bif decide (eI (gE (gT rows r.toNat) g.toNat) = [(0 : Int), (0 : Int), (0 : Int), (0 : Int)]) then [] else [((1 : Int), i, r)]) ++ gateR rows g i d (r + 1)
noncomputable def gatesF (c : Cir) (k : Int) (rows : List (List Nat)) : Int → List Int → List (Int × Int × Int)
  | i, g :: t => gateR rows g i ((rowsV c k g).2 - (rowsV c k g).1).toNat (rowsV c k g).1 ++ gatesF c k rows (i + 1) t
  | _, [] => []
noncomputable def looksF (rows : List (List Nat)) : Int → List (List Int × List Int) → List (Int × Int × Int)
  | i, l :: t => (lookV rows l.1 l.2).map (fun r => ((2 : Int), i, r)) ++ looksF rows (i + 1) t
  | _, [] => []
noncomputable def copF (c : Cir) (s : Sht) (so : Int) : Int → List (Int × Int × Int × Int) → List (Int × Int × Int)
  | i, x :: t => (bif decide (eI (cellV c s so x.1 x.2.1) = eI (cellV c s so x.2.2.1 x.2.2.2)) then [] else [((3 : Int), i, (0 : Int))]) ++ copF c s so (i + 1) t
  | _, [] => []
noncomputable def rowsA (c : Cir) (s : Sht) (so k : Int) (n : Nat) : List (List Nat) := (List.range n).map fun (r : Nat) => rowV c s so k (qsN [] c.nodes) (r : Int)
noncomputable def fltV (c : Cir) (s : Sht) (so k : Int) : List (Int × Int × Int) := gatesF c k (rowsA c s so k (usN k).toNat) 0 c.gates ++ (looksF (rowsA c s so k (usN k).toNat) 0 c.looks ++ copF c s so 0 s.cp)
noncomputable def fltR (c : Cir) (s : Sht) (so k : Int) : List (Int × Int × Int) × Int := if fE so ≠ 0 then ([], fE so) else if fitV c k s ≠ 0 then ([], fitV c k s) else (fltV c s so k, 0)
theorem gateR_len (rows : List (List Nat)) (g i : Int) : ∀ (d : Nat) (r : Int), (gateR rows g i d r).length ≤ d
  | 0, _ => Nat.le_refl _
  | d + 1, r => by
    have := gateR_len rows g i d (r + 1)
    rw [gateR, List.length_append]
    cases decide (eI (gE (gT rows r.toNat) g.toNat) = [(0 : Int), (0 : Int), (0 : Int), (0 : Int)]) <;> simp <;> omega
theorem gatesF_len {c : Cir} {k : Int} {rows : List (List Nat)} {B : Nat} (h : ∀ g, ((rowsV c k g).2 - (rowsV c k g).1).toNat ≤ B) : ∀ (l : List Int) (i : Int), (gatesF c k rows i l).length ≤ l.length * B
  | [], _ => by simp [gatesF]
  | g :: t, i => by
    have h1 := gateR_len rows g i ((rowsV c k g).2 - (rowsV c k g).1).toNat (rowsV c k g).1
    have h2 := gatesF_len (rows := rows) h t (i + 1)
    have h3 := h g
    rw [gatesF, List.length_append, List.length_cons, Nat.add_mul]; omega
theorem looksF_len (rows : List (List Nat)) : ∀ (l : List (List Int × List Int)) (i : Int), (looksF rows i l).length ≤ l.length * rows.length
  | [], _ => by simp [looksF]
  | x :: t, i => by
    have h1 := missT_len (keysT rows x.2) x.1 rows 0
    have h2 := looksF_len rows t (i + 1)
    rw [looksF, List.length_append, List.length_map, List.length_cons, Nat.add_mul]
    show (lookV rows x.1 x.2).length + _ ≤ _
    rw [lookV]; omega
theorem copF_len (c : Cir) (s : Sht) (so : Int) : ∀ (l : List (Int × Int × Int × Int)) (i : Int), (copF c s so i l).length ≤ l.length
  | [], _ => Nat.le_refl _
  | x :: t, i => by
    have h2 := copF_len c s so t (i + 1)
    rw [copF, List.length_append, List.length_cons]
    cases decide (eI (cellV c s so x.1 x.2.1) = eI (cellV c s so x.2.2.1 x.2.2.2)) <;> simp <;> omega
theorem usN_le {k : Int} (h : k ≤ 5) : 0 ≤ usN k ∧ usN k ≤ 28 := by
  rw [usN]
  split
  · omega
  · have : k = 2 ∨ k = 3 ∨ k = 4 ∨ k = 5 := by omega
    rcases this with rfl | rfl | rfl | rfl <;> decide
theorem fltV_len {c : Cir} {s : Sht} {so k : Int} (h : chkC c = 0) (hk : k ≤ 5) (hp : s.cp.length ≤ 256) : (fltV c s so k).length ≤ 100000 := by
  have hl := chkC_len h
  have hu := usN_le hk
  have h1 := gatesF_len (c := c) (k := k) (rows := rowsA c s so k (usN k).toNat) (B := 28) (fun g => by
    have := rows_bnd (x := g) h (show k ≤ 10 by omega)
    omega) c.gates 0
  have h2 := looksF_len (rowsA c s so k (usN k).toNat) c.looks 0
  have h3 := copF_len c s so s.cp 0
  have h4 : (rowsA c s so k (usN k).toNat).length ≤ 28 := by rw [rowsA, List.length_map, List.length_range]; omega
  have h5 : c.looks.length * (rowsA c s so k (usN k).toNat).length ≤ 4 * 28 := Nat.mul_le_mul (by omega) h4
  rw [fltV, List.length_append, List.length_append]; omega
theorem gP_mem {l : List (Int × Int × Int × Int)} {k : Nat} (h : k < l.length) : gP l k ∈ l := by
  rw [gP, List.getD_eq_getElem?_getD, List.getElem?_eq_getElem h]
  exact List.getElem_mem h
theorem drop_gL {l : List (List Int × List Int)} {k : Nat} (h : k < l.length) : l.drop k = gL l k :: l.drop (k + 1) := by
  rw [List.drop_eq_getElem_cons h, gL, List.getD_eq_getElem?_getD, List.getElem?_eq_getElem h]; rfl
theorem rowV_len {c : Cir} (h : chkC c = 0) (s : Sht) {so : Int} (hs : fE so = 0) (k r : Int) : (rowV c s so k (qsN [] c.nodes) r).length = c.nodes.length := by
  obtain ⟨h0, _⟩ := chkC_zero h
  obtain ⟨out, _, h1, h2⟩ := vlR_okc ((fE_zero so).1 hs) (chkN_ord h0).2 (show (atQ s k r (qsN [] c.nodes)).length = (qsN [] c.nodes).length by rw [atQ, List.length_map]) (qsN_has c.nodes [])
  rw [rowV, h1]; exact h2
theorem rowsA_mem {c : Cir} (h : chkC c = 0) (s : Sht) {so : Int} (hs : fE so = 0) {k : Int} {n : Nat} : ∀ r ∈ rowsA c s so k n, r.length = c.nodes.length := by
  intro r hr
  obtain ⟨i, _, rfl⟩ := List.mem_map.1 hr
  exact rowV_len h s hs k _
theorem rowsA_ok {c : Cir} (s : Sht) {so k : Int} {n : Nat} : (rowsA c s so k n).length = n := by rw [rowsA, List.length_map, List.length_range]
theorem rowsA_succ (c : Cir) (s : Sht) (so k : Int) (i : Nat) : rowsA c s so k (i + 1) = rowsA c s so k i ++ [rowV c s so k (qsN [] c.nodes) (i : Int)] := by
  rw [rowsA, List.range_succ, List.map_append]; rfl
theorem gates_in {c : Cir} (h : chkC c = 0) : ∀ g ∈ c.gates, 0 ≤ g ∧ g < (c.nodes.length : Int) := by
  obtain ⟨_, hg⟩ := chkC_zero h
  intro g hg2
  exact of_decide_eq_true (any_not (goodB_all hg).2.1 g hg2)
theorem looks_in {c : Cir} (h : chkC c = 0) : ∀ l ∈ c.looks, l.1.length ≤ 4 ∧ l.2.length ≤ 4 ∧ (∀ g ∈ l.1, 0 ≤ g ∧ g < (c.nodes.length : Int)) ∧ ∀ g ∈ l.2, 0 ≤ g ∧ g < (c.nodes.length : Int) := by
  obtain ⟨_, hg⟩ := chkC_zero h
  intro l hl
  obtain ⟨h1, h2, h3, h4, h5⟩ := look_places (any_not (goodB_all hg).2.2.1 l hl)
  have fl : ∀ g, flatB c g = true → 0 ≤ g ∧ g < (c.nodes.length : Int) := fun g hh => by
    rw [flatB, Bool.and_eq_true] at hh
    exact of_decide_eq_true hh.1
  exact ⟨h4, by omega, fun g hh => fl g (h1 g hh), fun g hh => fl g (h2 g hh)⟩
theorem cps_in {c : Cir} {k : Int} {s : Sht} (h : fitV c k s = 0) : s.cp.length ≤ 256 ∧ ∀ x ∈ s.cp, (0 ≤ x.1 ∧ x.1 < (c.eqs.length : Int)) ∧ (0 ≤ x.2.2.1 ∧ x.2.2.1 < (c.eqs.length : Int)) := by
  have hw := (fitV_zero h).2.2.2.2.2.2
  rw [wrP, Bool.or_eq_false_iff, decide_eq_false_iff_not, List.any_eq_false] at hw
  refine ⟨by omega, fun x hx => ?_⟩
  have := hw.2 x hx
  rw [badP, badB, badB, Bool.or_eq_true, decide_eq_true_eq, decide_eq_true_eq] at this
  omega
end Go.Pl
namespace Go.Proofs.Ytlmjdcbhpffanaa
open Go.Sx Go.Pl
set_option linter.unusedVariables false
set_option maxRecDepth 100000
end Go.Proofs.Ytlmjdcbhpffanaa
/- All faults: the walk. -/
namespace Go.Proofs.Ytlmjdcbhpffanaa
open Go.Sx Go.Pl
set_option linter.unusedVariables false
set_option maxRecDepth 100000
theorem fltS (c : Cir) (s : Sht) (so k : Int) (K : List It → St → Prop) (R : SV → List HO → Prop) : W (xwp Try.prog X K79 [(49, [])] 60 (fxOf Try.f25 [] [⟨[0,1,0,1,1,1,1], [38,37,12,10,5,7,2], [(12,44,1)]⟩, ⟨[0,1,0,1,1,1,1,1,1], [51,50,49,14,12,10,5,7,2], [(14,76,3)]⟩, ⟨[0,1,1,0,0,1,1,0,0,1,0,1,1,1,1,1,1], [17,18,16,15,51,50,49,14,12,10,5,7,2], []⟩, ⟨[0,1,0,1,1,1,1,1,1,1], [87,86,85,14,12,10,5,7], []⟩, ⟨[0,1,1,0,0,1,1,0,0,1,0,1,1,1,1,1,1,1], [96,95,94,19,87,86,85,14,12,10,5,7], []⟩, ⟨[0,1,0,1,1,1,1,1,1,1,1], [111,110,109,14,10], []⟩]) [] [.at []] ⟨argsS 0 [.v (.int .i64 so), .agg [.v (.int .i64 c.fx), .v (.int .i64 c.ad), .v (.int .i64 c.ins), .x 0 [], .x 1 [], .x 2 [], .x 3 []], .v (.int .i64 k), .agg [.x 4 [], .x 5 [], .x 6 [], .x 7 []]], [.ext false (.s false 7 c.nodes.length (cN c.nodes)), .ext false (.s false 1 c.gates.length (cI c.gates)), .ext false (.s false 2 c.looks.length (cL c.looks)), .ext false (.s false 2 c.eqs.length (cK c.eqs)), .ext false (.s false 1 s.fx.length (cT s.fx)), .ext false (.s false 1 s.ad.length (cT s.ad)), .ext false (.s false 1 s.is.length (cT s.is)), .ext false (.s false 4 s.cp.length (cP s.cp))]⟩ K R) = W ((∀ M : Mem, 0 + 4 ≤ 4) ∧ bif !fE so == (0 : Int) then bif !fE so == (0 : Int) then R (.tup [.v (Value.slice none 0 0), .v (vi64 (fE so))]) [] else K [.at [0,1,0,1,1,1,1], .blk 0, .at [1,1,1,1,1]] (St.mk [(38, .v (vi64 0)), (37, .v (vi64 (usN k))), (12, .o 0), (10, .v (Value.pointer none)), (5, .p 1 0), (7, .p 2 0), (2, .v (vi64 k))] [.rowc 44 1 0 (.lit 1 []), .cells [.v (vi64 c.1), .v (vi64 c.2), .v (vi64 c.3), .x 3 [], .x 4 [], .x 5 [], .x 6 []] 27, .cells [.x 7 [], .x 8 [], .x 9 [], .x 10 []] 49, .ext false (.s false 7 c.4.length (cN c.4)), .ext false (.s false 1 c.5.length (cI c.5)), .ext false (.s false 2 c.6.length (cL c.6)), .ext false (.s false 2 c.7.length (cK c.7)), .ext false (.s false 1 s.1.length (cT s.1)), .ext false (.s false 1 s.2.length (cT s.2)), .ext false (.s false 1 s.3.length (cT s.3)), .ext false (.s false 4 s.4.length (cP s.4))]) else lF c.1 c.2 c.3 c.4.length c.5.length c.6.length c.7.length s.1.length s.2.length s.3.length s.4.length (cN c.4) (cI c.5) (cL c.6) (cK c.7) (cT s.1) (cT s.2) (cT s.3) (cP s.4) fun (c_1 : Cir) (s_1 : Sht) => bif !fitV c_1 k s_1 == (0 : Int) then bif !fitV c_1 k s_1 == (0 : Int) then R (.tup [.v (Value.slice none 0 0), .v (vi64 (fitV c_1 k s_1))]) [] else K [.at [0,1,0,1,1,1,1], .blk 0, .at [1,1,1,1,1]] (St.mk [(38, .v (vi64 0)), (37, .v (vi64 (usN k))), (12, .o 0), (10, .v (Value.pointer none)), (5, .p 1 0), (7, .p 2 0), (2, .v (vi64 k))] [.rowc 44 1 0 (.lit 1 []), .cells [.v (vi64 c.1), .v (vi64 c.2), .v (vi64 c.3), .x 3 [], .x 4 [], .x 5 [], .x 6 []] 27, .cells [.x 7 [], .x 8 [], .x 9 [], .x 10 []] 49, .ext false (.s false 7 c.4.length (cN c.4)), .ext false (.s false 1 c.5.length (cI c.5)), .ext false (.s false 2 c.6.length (cL c.6)), .ext false (.s false 2 c.7.length (cK c.7)), .ext false (.s false 1 s.1.length (cT s.1)), .ext false (.s false 1 s.2.length (cT s.2)), .ext false (.s false 1 s.3.length (cT s.3)), .ext false (.s false 4 s.4.length (cP s.4))]) else ∃ (l : List Nd), List.length c.4 = List.length l ∧ IsC c.4.length 7 (cN c.4) (cN l) ∧ List.length l ≤ 4000000000000 ∧ K [.at [0,1,0,1,1,1,1], .blk 0, .at [1,1,1,1,1]] (St.mk [(38, .v (vi64 0)), (37, .v (vi64 (usN k))), (12, .o 0), (10, .p 1 0), (5, .p 2 0), (7, .p 3 0), (2, .v (vi64 k))] [.rowc 44 1 0 (.lit 1 []), .cells [.v (vi64 c.1), .v (vi64 c.2), .v (vi64 c.3), .x 4 [], .x 5 [], .x 6 [], .x 7 [], .x 8 [], .x 9 [], .x 10 [], .x 11 [], .v (vi64 so), .v (vi64 k), .o 12] 145, .cells [.v (vi64 c.1), .v (vi64 c.2), .v (vi64 c.3), .x 13 [], .x 14 [], .x 15 [], .x 16 []] 27, .cells [.x 17 [], .x 18 [], .x 19 [], .x 20 []] 49, .ext false (.s false 7 c.4.length (cN c.4)), .ext false (.s false 1 c.5.length (cI c.5)), .ext false (.s false 2 c.6.length (cL c.6)), .ext false (.s false 2 c.7.length (cK c.7)), .ext false (.s false 1 s.1.length (cT s.1)), .ext false (.s false 1 s.2.length (cT s.2)), .ext false (.s false 1 s.3.length (cT s.3)), .ext false (.s false 4 s.4.length (cP s.4)), .rowc 128 3 (List.length (qsN [] l)) (.fn (cQ (qsN [] l))), .ext false (.s false 7 c.4.length (cN c.4)), .ext false (.s false 1 c.5.length (cI c.5)), .ext false (.s false 2 c.6.length (cL c.6)), .ext false (.s false 2 c.7.length (cK c.7)), .ext false (.s false 1 s.1.length (cT s.1)), .ext false (.s false 1 s.2.length (cT s.2)), .ext false (.s false 1 s.3.length (cT s.3)), .ext false (.s false 4 s.4.length (cP s.4))])) := by kernel_rfl
theorem fa0 (c : Cir) (s : Sht) (so k : Int) (qs : List (Int × Int × Int)) (rows : List (List Nat)) (n : Nat) (u : Int) (i M : Nat) (K : List It → St → Prop) (R : SV → List HO → Prop) : W (xwp Try.prog X K79 [] 60 (fxOf Try.f25 [] [⟨[0,1,0,1,1,1,1], [38,37,12,10,5,7,2], [(12,44,1)]⟩, ⟨[0,1,0,1,1,1,1,1,1], [51,50,49,14,12,10,5,7,2], [(14,76,3)]⟩, ⟨[0,1,1,0,0,1,1,0,0,1,0,1,1,1,1,1,1], [17,18,16,15,51,50,49,14,12,10,5,7,2], []⟩, ⟨[0,1,0,1,1,1,1,1,1,1], [87,86,85,14,12,10,5,7], []⟩, ⟨[0,1,1,0,0,1,1,0,0,1,0,1,1,1,1,1,1,1], [96,95,94,19,87,86,85,14,12,10,5,7], []⟩, ⟨[0,1,0,1,1,1,1,1,1,1,1], [111,110,109,14,10], []⟩]) [] (.at [0,0,1,0,1,1,1,1] :: .rnd [0,0,1,0,1,1,1,1] M :: [.blk 0, .at [1,1,1,1,1]]) (St.mk [(38, .v (vi64 (i : Int))), (37, .v (vi64 u)), (12, .o 0), (10, .p 1 0), (5, .p 2 0), (7, .p 3 0), (2, .v (vi64 k))] [.rowc 44 1 n (.fn (cT rows)), .cells [.v (vi64 c.1), .v (vi64 c.2), .v (vi64 c.3), .x 4 [], .x 5 [], .x 6 [], .x 7 [], .x 8 [], .x 9 [], .x 10 [], .x 11 [], .v (vi64 so), .v (vi64 k), .o 12] 145, .cells [.v (vi64 c.1), .v (vi64 c.2), .v (vi64 c.3), .x 13 [], .x 14 [], .x 15 [], .x 16 []] 27, .cells [.x 17 [], .x 18 [], .x 19 [], .x 20 []] 49, .ext false (.s false 7 c.4.length (cN c.4)), .ext false (.s false 1 c.5.length (cI c.5)), .ext false (.s false 2 c.6.length (cL c.6)), .ext false (.s false 2 c.7.length (cK c.7)), .ext false (.s false 1 s.1.length (cT s.1)), .ext false (.s false 1 s.2.length (cT s.2)), .ext false (.s false 1 s.3.length (cT s.3)), .ext false (.s false 4 s.4.length (cP s.4)), .rowc 128 3 (List.length (qs)) (.fn (cQ (qs))), .ext false (.s false 7 c.4.length (cN c.4)), .ext false (.s false 1 c.5.length (cI c.5)), .ext false (.s false 2 c.6.length (cL c.6)), .ext false (.s false 2 c.7.length (cK c.7)), .ext false (.s false 1 s.1.length (cT s.1)), .ext false (.s false 1 s.2.length (cT s.2)), .ext false (.s false 1 s.3.length (cT s.3)), .ext false (.s false 4 s.4.length (cP s.4))]) K R) = W (bif decide ((↑i : Int) < u) then lFk (lc 14 [.v (vi64 c.1), .v (vi64 c.2), .v (vi64 c.3), .s false 7 c.4.length (cN c.4), .s false 1 c.5.length (cI c.5), .s false 2 c.6.length (cL c.6), .s false 2 c.7.length (cK c.7), .s false 1 s.1.length (cT s.1), .s false 1 s.2.length (cT s.2), .s false 1 s.3.length (cT s.3), .s false 4 s.4.length (cP s.4), .v (vi64 so), .v (vi64 k), .s false 3 (List.length qs) (cQ qs)]) fun (c_1 : Cir) (s_1 : Sht) (so_1 k_1 : Int) (qs_1 : List (Int × Int × Int)) => (∀ M : Mem, (n + 1) * 24 ≤ 140737488355328 ∧ n + 1 ≤ 140737488355328) ∧ K [.rnd [0,0,1,0,1,1,1,1] M, .blk 0, .at [1,1,1,1,1]] (St.mk [(38, .v (vi64 (IntKind.wrap .i64 ((↑i : Int) + (1 : Int))))), (37, .v (vi64 u)), (12, .o 0), (10, .p 1 0), (5, .p 2 0), (7, .p 3 0), (2, .v (vi64 k))] [.rowc 44 1 (n + 1) (.app n (.fn (cT rows)) (.lit 1 [.s false 4 (List.length (rowV c_1 s_1 so_1 k_1 qs_1 (↑i : Int))) (cE (rowV c_1 s_1 so_1 k_1 qs_1 (↑i : Int)))])), .cells [.v (vi64 c.1), .v (vi64 c.2), .v (vi64 c.3), .x 4 [], .x 5 [], .x 6 [], .x 7 [], .x 8 [], .x 9 [], .x 10 [], .x 11 [], .v (vi64 so), .v (vi64 k), .o 12] 145, .cells [.v (vi64 c.1), .v (vi64 c.2), .v (vi64 c.3), .x 13 [], .x 14 [], .x 15 [], .x 16 []] 27, .cells [.x 17 [], .x 18 [], .x 19 [], .x 20 []] 49, .ext false (.s false 7 c.4.length (cN c.4)), .ext false (.s false 1 c.5.length (cI c.5)), .ext false (.s false 2 c.6.length (cL c.6)), .ext false (.s false 2 c.7.length (cK c.7)), .ext false (.s false 1 s.1.length (cT s.1)), .ext false (.s false 1 s.2.length (cT s.2)), .ext false (.s false 1 s.3.length (cT s.3)), .ext false (.s false 4 s.4.length (cP s.4)), .rowc 128 3 (List.length qs) (.fn (cQ qs)), .ext false (.s false 7 c.4.length (cN c.4)), .ext false (.s false 1 c.5.length (cI c.5)), .ext false (.s false 2 c.6.length (cL c.6)), .ext false (.s false 2 c.7.length (cK c.7)), .ext false (.s false 1 s.1.length (cT s.1)), .ext false (.s false 1 s.2.length (cT s.2)), .ext false (.s false 1 s.3.length (cT s.3)), .ext false (.s false 4 s.4.length (cP s.4))]) else K [.at [0,1,0,1,1,1,1,1,1], .blk 2, .at [1,1,1,1,1,1,1]] (St.mk [(51, .v (vi64 0)), (50, .v (vi64 (↑c.5.length : Int))), (49, .x 0 []), (14, .o 1), (12, .o 2), (10, .p 3 0), (5, .p 4 0), (7, .p 5 0), (2, .v (vi64 k))] [.ext false (.s false 1 c.5.length (cI c.5)), .rowc 76 3 0 (.lit 1 []), .rowc 44 1 n (.fn (cT rows)), .cells [.v (vi64 c.1), .v (vi64 c.2), .v (vi64 c.3), .x 6 [], .x 7 [], .x 8 [], .x 9 [], .x 10 [], .x 11 [], .x 12 [], .x 13 [], .v (vi64 so), .v (vi64 k), .o 14] 145, .cells [.v (vi64 c.1), .v (vi64 c.2), .v (vi64 c.3), .x 15 [], .x 0 [], .x 16 [], .x 17 []] 27, .cells [.x 18 [], .x 19 [], .x 20 [], .x 21 []] 49, .ext false (.s false 7 c.4.length (cN c.4)), .ext false (.s false 1 c.5.length (cI c.5)), .ext false (.s false 2 c.6.length (cL c.6)), .ext false (.s false 2 c.7.length (cK c.7)), .ext false (.s false 1 s.1.length (cT s.1)), .ext false (.s false 1 s.2.length (cT s.2)), .ext false (.s false 1 s.3.length (cT s.3)), .ext false (.s false 4 s.4.length (cP s.4)), .rowc 128 3 (List.length qs) (.fn (cQ qs)), .ext false (.s false 7 c.4.length (cN c.4)), .ext false (.s false 2 c.6.length (cL c.6)), .ext false (.s false 2 c.7.length (cK c.7)), .ext false (.s false 1 s.1.length (cT s.1)), .ext false (.s false 1 s.2.length (cT s.2)), .ext false (.s false 1 s.3.length (cT s.3)), .ext false (.s false 4 s.4.length (cP s.4))])) := by kernel_rfl
theorem fa1 (c : Cir) (s : Sht) (so k : Int) (qs : List (Int × Int × Int)) (rows : List (List Nat)) (n : Nat) (os : List (Int × Int × Int)) (m : Nat) (i M : Nat) (K : List It → St → Prop) (R : SV → List HO → Prop) : W (xwp Try.prog X K79 [] 60 (fxOf Try.f25 [] [⟨[0,1,0,1,1,1,1], [38,37,12,10,5,7,2], [(12,44,1)]⟩, ⟨[0,1,0,1,1,1,1,1,1], [51,50,49,14,12,10,5,7,2], [(14,76,3)]⟩, ⟨[0,1,1,0,0,1,1,0,0,1,0,1,1,1,1,1,1], [17,18,16,15,51,50,49,14,12,10,5,7,2], []⟩, ⟨[0,1,0,1,1,1,1,1,1,1], [87,86,85,14,12,10,5,7], []⟩, ⟨[0,1,1,0,0,1,1,0,0,1,0,1,1,1,1,1,1,1], [96,95,94,19,87,86,85,14,12,10,5,7], []⟩, ⟨[0,1,0,1,1,1,1,1,1,1,1], [111,110,109,14,10], []⟩]) [] (.at [0,0,1,0,1,1,1,1,1,1] :: .rnd [0,0,1,0,1,1,1,1,1,1] M :: [.blk 2, .at [1,1,1,1,1,1,1]]) (St.mk [(51, .v (vi64 (i : Int))), (50, .v (vi64 (↑c.5.length : Int))), (49, .x 0 []), (14, .o 1), (12, .x 2 []), (10, .p 3 0), (5, .p 4 0), (7, .p 5 0), (2, .v (vi64 k))] [.ext false (.s false 1 c.5.length (cI c.5)), .rowc 76 3 m (.fn (cQ os)), .ext false (.s false 1 n (cT rows)), .cells [.v (vi64 c.1), .v (vi64 c.2), .v (vi64 c.3), .x 6 [], .x 7 [], .x 8 [], .x 9 [], .x 10 [], .x 11 [], .x 12 [], .x 13 [], .v (vi64 so), .v (vi64 k), .o 14] 145, .cells [.v (vi64 c.1), .v (vi64 c.2), .v (vi64 c.3), .x 15 [], .x 0 [], .x 16 [], .x 17 []] 27, .cells [.x 18 [], .x 19 [], .x 20 [], .x 21 []] 49, .ext false (.s false 7 c.4.length (cN c.4)), .ext false (.s false 1 c.5.length (cI c.5)), .ext false (.s false 2 c.6.length (cL c.6)), .ext false (.s false 2 c.7.length (cK c.7)), .ext false (.s false 1 s.1.length (cT s.1)), .ext false (.s false 1 s.2.length (cT s.2)), .ext false (.s false 1 s.3.length (cT s.3)), .ext false (.s false 4 s.4.length (cP s.4)), .rowc 128 3 (List.length qs) (.fn (cQ qs)), .ext false (.s false 7 c.4.length (cN c.4)), .ext false (.s false 2 c.6.length (cL c.6)), .ext false (.s false 2 c.7.length (cK c.7)), .ext false (.s false 1 s.1.length (cT s.1)), .ext false (.s false 1 s.2.length (cT s.2)), .ext false (.s false 1 s.3.length (cT s.3)), .ext false (.s false 4 s.4.length (cP s.4))]) K R) = W (bif decide ((↑i : Int) < (↑c.5.length : Int)) then (∀ M : Mem, (0 : Int) ≤ (↑i : Int) ∧ (↑i : Int) < (↑c.5.length : Int)) ∧ (∀ M : Mem, i < List.length c.5) ∧ lC c.1 c.2 c.3 c.4.length c.5.length c.6.length c.7.length (cN c.4) (cI c.5) (cL c.6) (cK c.7) fun (c_1 : Cir) => K [.at [0,1,1,0,0,1,1,0,0,1,0,1,1,1,1,1,1], .blk 4, .blk 3, .at [1,1,1,0,0,1,0,1,1,1,1,1,1], .rnd [0,0,1,0,1,1,1,1,1,1] M, .blk 2, .at [1,1,1,1,1,1,1]] (St.mk [(17, .v (vi64 (rowsV c_1 k (gI c.5 i)).1)), (18, .v (vi64 (rowsV c_1 k (gI c.5 i)).2)), (16, .v (vi64 (gI c.5 i))), (15, .v (vi64 (↑i : Int))), (51, .v (vi64 (↑i : Int))), (50, .v (vi64 (↑c.5.length : Int))), (49, .x 0 []), (14, .o 1), (12, .x 2 []), (10, .p 3 0), (5, .p 4 0), (7, .p 5 0), (2, .v (vi64 k))] [.ext false (.s false 1 c.5.length (cI c.5)), .rowc 76 3 m (.fn (cQ os)), .ext false (.s false 1 n (cT rows)), .cells [.v (vi64 c.1), .v (vi64 c.2), .v (vi64 c.3), .x 6 [], .x 7 [], .x 8 [], .x 9 [], .x 10 [], .x 11 [], .x 12 [], .x 13 [], .v (vi64 so), .v (vi64 k), .o 14] 145, .cells [.v (vi64 c.1), .v (vi64 c.2), .v (vi64 c.3), .x 15 [], .x 0 [], .x 16 [], .x 17 []] 27, .cells [.x 18 [], .x 19 [], .x 20 [], .x 21 []] 49, .ext false (.s false 7 c.4.length (cN c.4)), .ext false (.s false 1 c.5.length (cI c.5)), .ext false (.s false 2 c.6.length (cL c.6)), .ext false (.s false 2 c.7.length (cK c.7)), .ext false (.s false 1 s.1.length (cT s.1)), .ext false (.s false 1 s.2.length (cT s.2)), .ext false (.s false 1 s.3.length (cT s.3)), .ext false (.s false 4 s.4.length (cP s.4)), .rowc 128 3 (List.length qs) (.fn (cQ qs)), .ext false (.s false 7 c.4.length (cN c.4)), .ext false (.s false 2 c.6.length (cL c.6)), .ext false (.s false 2 c.7.length (cK c.7)), .ext false (.s false 1 s.1.length (cT s.1)), .ext false (.s false 1 s.2.length (cT s.2)), .ext false (.s false 1 s.3.length (cT s.3)), .ext false (.s false 4 s.4.length (cP s.4))]) else K [.at [0,1,0,1,1,1,1,1,1,1], .blk 6, .at [1,1,1,1,1,1,1,1]] (St.mk [(87, .v (vi64 0)), (86, .v (vi64 (↑c.6.length : Int))), (85, .x 0 []), (14, .o 1), (12, .x 2 []), (10, .p 3 0), (5, .p 4 0), (7, .p 5 0)] [.ext false (.s false 2 c.6.length (cL c.6)), .rowc 76 3 m (.fn (cQ os)), .ext false (.s false 1 n (cT rows)), .cells [.v (vi64 c.1), .v (vi64 c.2), .v (vi64 c.3), .x 6 [], .x 7 [], .x 8 [], .x 9 [], .x 10 [], .x 11 [], .x 12 [], .x 13 [], .v (vi64 so), .v (vi64 k), .o 14] 145, .cells [.v (vi64 c.1), .v (vi64 c.2), .v (vi64 c.3), .x 15 [], .x 16 [], .x 0 [], .x 17 []] 27, .cells [.x 18 [], .x 19 [], .x 20 [], .x 21 []] 49, .ext false (.s false 7 c.4.length (cN c.4)), .ext false (.s false 1 c.5.length (cI c.5)), .ext false (.s false 2 c.6.length (cL c.6)), .ext false (.s false 2 c.7.length (cK c.7)), .ext false (.s false 1 s.1.length (cT s.1)), .ext false (.s false 1 s.2.length (cT s.2)), .ext false (.s false 1 s.3.length (cT s.3)), .ext false (.s false 4 s.4.length (cP s.4)), .rowc 128 3 (List.length qs) (.fn (cQ qs)), .ext false (.s false 7 c.4.length (cN c.4)), .ext false (.s false 1 c.5.length (cI c.5)), .ext false (.s false 2 c.7.length (cK c.7)), .ext false (.s false 1 s.1.length (cT s.1)), .ext false (.s false 1 s.2.length (cT s.2)), .ext false (.s false 1 s.3.length (cT s.3)), .ext false (.s false 4 s.4.length (cP s.4))])) := by kernel_rfl
theorem fa2 (c : Cir) (s : Sht) (so k : Int) (qs : List (Int × Int × Int)) (rows : List (List Nat)) (n : Nat) (os : List (Int × Int × Int)) (m : Nat) (i M2 M : Nat) (r to : Int) (K : List It → St → Prop) (R : SV → List HO → Prop) : W (xwp Try.prog X K79 [] 60 (fxOf Try.f25 [] [⟨[0,1,0,1,1,1,1], [38,37,12,10,5,7,2], [(12,44,1)]⟩, ⟨[0,1,0,1,1,1,1,1,1], [51,50,49,14,12,10,5,7,2], [(14,76,3)]⟩, ⟨[0,1,1,0,0,1,1,0,0,1,0,1,1,1,1,1,1], [17,18,16,15,51,50,49,14,12,10,5,7,2], []⟩, ⟨[0,1,0,1,1,1,1,1,1,1], [87,86,85,14,12,10,5,7], []⟩, ⟨[0,1,1,0,0,1,1,0,0,1,0,1,1,1,1,1,1,1], [96,95,94,19,87,86,85,14,12,10,5,7], []⟩, ⟨[0,1,0,1,1,1,1,1,1,1,1], [111,110,109,14,10], []⟩]) [] (.at [0,0,1,1,0,0,1,1,0,0,1,0,1,1,1,1,1,1] :: .rnd [0,0,1,1,0,0,1,1,0,0,1,0,1,1,1,1,1,1] M :: [.blk 4, .blk 3, .at [1,1,1,0,0,1,0,1,1,1,1,1,1], .rnd [0,0,1,0,1,1,1,1,1,1] M2, .blk 2, .at [1,1,1,1,1,1,1]]) (St.mk [(17, .v (vi64 r)), (18, .v (vi64 to)), (16, .v (vi64 (gI c.5 i))), (15, .v (vi64 (↑i : Int))), (51, .v (vi64 (↑i : Int))), (50, .v (vi64 (↑c.5.length : Int))), (49, .x 0 []), (14, .o 1), (12, .x 2 []), (10, .p 3 0), (5, .p 4 0), (7, .p 5 0), (2, .v (vi64 k))] [.ext false (.s false 1 c.5.length (cI c.5)), .rowc 76 3 m (.fn (cQ os)), .ext false (.s false 1 n (cT rows)), .cells [.v (vi64 c.1), .v (vi64 c.2), .v (vi64 c.3), .x 6 [], .x 7 [], .x 8 [], .x 9 [], .x 10 [], .x 11 [], .x 12 [], .x 13 [], .v (vi64 so), .v (vi64 k), .o 14] 145, .cells [.v (vi64 c.1), .v (vi64 c.2), .v (vi64 c.3), .x 15 [], .x 0 [], .x 16 [], .x 17 []] 27, .cells [.x 18 [], .x 19 [], .x 20 [], .x 21 []] 49, .ext false (.s false 7 c.4.length (cN c.4)), .ext false (.s false 1 c.5.length (cI c.5)), .ext false (.s false 2 c.6.length (cL c.6)), .ext false (.s false 2 c.7.length (cK c.7)), .ext false (.s false 1 s.1.length (cT s.1)), .ext false (.s false 1 s.2.length (cT s.2)), .ext false (.s false 1 s.3.length (cT s.3)), .ext false (.s false 4 s.4.length (cP s.4)), .rowc 128 3 (List.length qs) (.fn (cQ qs)), .ext false (.s false 7 c.4.length (cN c.4)), .ext false (.s false 2 c.6.length (cL c.6)), .ext false (.s false 2 c.7.length (cK c.7)), .ext false (.s false 1 s.1.length (cT s.1)), .ext false (.s false 1 s.2.length (cT s.2)), .ext false (.s false 1 s.3.length (cT s.3)), .ext false (.s false 4 s.4.length (cP s.4))]) K R) = W (bif decide (r < to) then (∀ M : Mem, (0 : Int) ≤ r ∧ r < (↑n : Int)) ∧ (∀ M : Mem, Int.toNat r < n) ∧ (∀ M : Mem, Int.toNat r < n) ∧ (∀ M : Mem, (0 : Int) ≤ gI c.5 i ∧ gI c.5 i < (↑(List.length (gT rows (Int.toNat r))) : Int)) ∧ (∀ M : Mem, Int.toNat r < n) ∧ (∀ M : Mem, Int.toNat (gI c.5 i) < List.length (gT rows (Int.toNat r))) ∧ bif !decide ((eI (gE (gT rows (Int.toNat r)) (Int.toNat (gI c.5 i)))) = [(0 : Int), (0 : Int), (0 : Int), (0 : Int)]) then (∀ M : Mem, (m + 1) * 24 ≤ 140737488355328 ∧ m + 1 ≤ 140737488355328) ∧ K [.rnd [0,0,1,1,0,0,1,1,0,0,1,0,1,1,1,1,1,1] M, .blk 4, .blk 3, .at [1,1,1,0,0,1,0,1,1,1,1,1,1], .rnd [0,0,1,0,1,1,1,1,1,1] M2, .blk 2, .at [1,1,1,1,1,1,1]] (St.mk [(17, .v (vi64 (IntKind.wrap .i64 (r + (1 : Int))))), (18, .v (vi64 to)), (16, .v (vi64 (gI c.5 i))), (15, .v (vi64 (↑i : Int))), (51, .v (vi64 (↑i : Int))), (50, .v (vi64 (↑c.5.length : Int))), (49, .x 0 []), (14, .o 1), (12, .x 2 []), (10, .p 3 0), (5, .p 4 0), (7, .p 5 0), (2, .v (vi64 k))] [.ext false (.s false 1 c.5.length (cI c.5)), .rowc 76 3 (m + 1) (.app m (.fn (cQ os)) (.lit 3 [.v (vi64 1), .v (vi64 (↑i : Int)), .v (vi64 r)])), .ext false (.s false 1 n (cT rows)), .cells [.v (vi64 c.1), .v (vi64 c.2), .v (vi64 c.3), .x 6 [], .x 7 [], .x 8 [], .x 9 [], .x 10 [], .x 11 [], .x 12 [], .x 13 [], .v (vi64 so), .v (vi64 k), .o 14] 145, .cells [.v (vi64 c.1), .v (vi64 c.2), .v (vi64 c.3), .x 15 [], .x 0 [], .x 16 [], .x 17 []] 27, .cells [.x 18 [], .x 19 [], .x 20 [], .x 21 []] 49, .ext false (.s false 7 c.4.length (cN c.4)), .ext false (.s false 1 c.5.length (cI c.5)), .ext false (.s false 2 c.6.length (cL c.6)), .ext false (.s false 2 c.7.length (cK c.7)), .ext false (.s false 1 s.1.length (cT s.1)), .ext false (.s false 1 s.2.length (cT s.2)), .ext false (.s false 1 s.3.length (cT s.3)), .ext false (.s false 4 s.4.length (cP s.4)), .rowc 128 3 (List.length qs) (.fn (cQ qs)), .ext false (.s false 7 c.4.length (cN c.4)), .ext false (.s false 2 c.6.length (cL c.6)), .ext false (.s false 2 c.7.length (cK c.7)), .ext false (.s false 1 s.1.length (cT s.1)), .ext false (.s false 1 s.2.length (cT s.2)), .ext false (.s false 1 s.3.length (cT s.3)), .ext false (.s false 4 s.4.length (cP s.4))]) else K [.rnd [0,0,1,1,0,0,1,1,0,0,1,0,1,1,1,1,1,1] M, .blk 4, .blk 3, .at [1,1,1,0,0,1,0,1,1,1,1,1,1], .rnd [0,0,1,0,1,1,1,1,1,1] M2, .blk 2, .at [1,1,1,1,1,1,1]] (St.mk [(17, .v (vi64 (IntKind.wrap .i64 (r + (1 : Int))))), (18, .v (vi64 to)), (16, .v (vi64 (gI c.5 i))), (15, .v (vi64 (↑i : Int))), (51, .v (vi64 (↑i : Int))), (50, .v (vi64 (↑c.5.length : Int))), (49, .x 0 []), (14, .o 1), (12, .x 2 []), (10, .p 3 0), (5, .p 4 0), (7, .p 5 0), (2, .v (vi64 k))] [.ext false (.s false 1 c.5.length (cI c.5)), .rowc 76 3 m (.fn (cQ os)), .ext false (.s false 1 n (cT rows)), .cells [.v (vi64 c.1), .v (vi64 c.2), .v (vi64 c.3), .x 6 [], .x 7 [], .x 8 [], .x 9 [], .x 10 [], .x 11 [], .x 12 [], .x 13 [], .v (vi64 so), .v (vi64 k), .o 14] 145, .cells [.v (vi64 c.1), .v (vi64 c.2), .v (vi64 c.3), .x 15 [], .x 0 [], .x 16 [], .x 17 []] 27, .cells [.x 18 [], .x 19 [], .x 20 [], .x 21 []] 49, .ext false (.s false 7 c.4.length (cN c.4)), .ext false (.s false 1 c.5.length (cI c.5)), .ext false (.s false 2 c.6.length (cL c.6)), .ext false (.s false 2 c.7.length (cK c.7)), .ext false (.s false 1 s.1.length (cT s.1)), .ext false (.s false 1 s.2.length (cT s.2)), .ext false (.s false 1 s.3.length (cT s.3)), .ext false (.s false 4 s.4.length (cP s.4)), .rowc 128 3 (List.length qs) (.fn (cQ qs)), .ext false (.s false 7 c.4.length (cN c.4)), .ext false (.s false 2 c.6.length (cL c.6)), .ext false (.s false 2 c.7.length (cK c.7)), .ext false (.s false 1 s.1.length (cT s.1)), .ext false (.s false 1 s.2.length (cT s.2)), .ext false (.s false 1 s.3.length (cT s.3)), .ext false (.s false 4 s.4.length (cP s.4))]) else K [.rnd [0,0,1,0,1,1,1,1,1,1] M2, .blk 2, .at [1,1,1,1,1,1,1]] (St.mk [(51, .v (vi64 (IntKind.wrap .i64 ((↑i : Int) + (1 : Int))))), (50, .v (vi64 (↑c.5.length : Int))), (49, .x 0 []), (14, .o 1), (12, .x 2 []), (10, .p 3 0), (5, .p 4 0), (7, .p 5 0), (2, .v (vi64 k))] [.ext false (.s false 1 c.5.length (cI c.5)), .rowc 76 3 m (.fn (cQ os)), .ext false (.s false 1 n (cT rows)), .cells [.v (vi64 c.1), .v (vi64 c.2), .v (vi64 c.3), .x 6 [], .x 7 [], .x 8 [], .x 9 [], .x 10 [], .x 11 [], .x 12 [], .x 13 [], .v (vi64 so), .v (vi64 k), .o 14] 145, .cells [.v (vi64 c.1), .v (vi64 c.2), .v (vi64 c.3), .x 15 [], .x 0 [], .x 16 [], .x 17 []] 27, .cells [.x 18 [], .x 19 [], .x 20 [], .x 21 []] 49, .ext false (.s false 7 c.4.length (cN c.4)), .ext false (.s false 1 c.5.length (cI c.5)), .ext false (.s false 2 c.6.length (cL c.6)), .ext false (.s false 2 c.7.length (cK c.7)), .ext false (.s false 1 s.1.length (cT s.1)), .ext false (.s false 1 s.2.length (cT s.2)), .ext false (.s false 1 s.3.length (cT s.3)), .ext false (.s false 4 s.4.length (cP s.4)), .rowc 128 3 (List.length qs) (.fn (cQ qs)), .ext false (.s false 7 c.4.length (cN c.4)), .ext false (.s false 2 c.6.length (cL c.6)), .ext false (.s false 2 c.7.length (cK c.7)), .ext false (.s false 1 s.1.length (cT s.1)), .ext false (.s false 1 s.2.length (cT s.2)), .ext false (.s false 1 s.3.length (cT s.3)), .ext false (.s false 4 s.4.length (cP s.4))])) := by kernel_rfl
theorem fa3 (c : Cir) (s : Sht) (so k : Int) (qs : List (Int × Int × Int)) (rows : List (List Nat)) (n : Nat) (os : List (Int × Int × Int)) (m : Nat) (i M : Nat) (K : List It → St → Prop) (R : SV → List HO → Prop) : W (xwp Try.prog X K79 [] 60 (fxOf Try.f25 [] [⟨[0,1,0,1,1,1,1], [38,37,12,10,5,7,2], [(12,44,1)]⟩, ⟨[0,1,0,1,1,1,1,1,1], [51,50,49,14,12,10,5,7,2], [(14,76,3)]⟩, ⟨[0,1,1,0,0,1,1,0,0,1,0,1,1,1,1,1,1], [17,18,16,15,51,50,49,14,12,10,5,7,2], []⟩, ⟨[0,1,0,1,1,1,1,1,1,1], [87,86,85,14,12,10,5,7], []⟩, ⟨[0,1,1,0,0,1,1,0,0,1,0,1,1,1,1,1,1,1], [96,95,94,19,87,86,85,14,12,10,5,7], []⟩, ⟨[0,1,0,1,1,1,1,1,1,1,1], [111,110,109,14,10], []⟩]) [] (.at [0,0,1,0,1,1,1,1,1,1,1] :: .rnd [0,0,1,0,1,1,1,1,1,1,1] M :: [.blk 6, .at [1,1,1,1,1,1,1,1]]) (St.mk [(87, .v (vi64 (i : Int))), (86, .v (vi64 (↑c.6.length : Int))), (85, .x 0 []), (14, .o 1), (12, .x 2 []), (10, .p 3 0), (5, .p 4 0), (7, .p 5 0)] [.ext false (.s false 2 c.6.length (cL c.6)), .rowc 76 3 m (.fn (cQ os)), .ext false (.s false 1 n (cT rows)), .cells [.v (vi64 c.1), .v (vi64 c.2), .v (vi64 c.3), .x 6 [], .x 7 [], .x 8 [], .x 9 [], .x 10 [], .x 11 [], .x 12 [], .x 13 [], .v (vi64 so), .v (vi64 k), .o 14] 145, .cells [.v (vi64 c.1), .v (vi64 c.2), .v (vi64 c.3), .x 15 [], .x 16 [], .x 0 [], .x 17 []] 27, .cells [.x 18 [], .x 19 [], .x 20 [], .x 21 []] 49, .ext false (.s false 7 c.4.length (cN c.4)), .ext false (.s false 1 c.5.length (cI c.5)), .ext false (.s false 2 c.6.length (cL c.6)), .ext false (.s false 2 c.7.length (cK c.7)), .ext false (.s false 1 s.1.length (cT s.1)), .ext false (.s false 1 s.2.length (cT s.2)), .ext false (.s false 1 s.3.length (cT s.3)), .ext false (.s false 4 s.4.length (cP s.4)), .rowc 128 3 (List.length qs) (.fn (cQ qs)), .ext false (.s false 7 c.4.length (cN c.4)), .ext false (.s false 1 c.5.length (cI c.5)), .ext false (.s false 2 c.7.length (cK c.7)), .ext false (.s false 1 s.1.length (cT s.1)), .ext false (.s false 1 s.2.length (cT s.2)), .ext false (.s false 1 s.3.length (cT s.3)), .ext false (.s false 4 s.4.length (cP s.4))]) K R) = W (bif decide ((↑i : Int) < (↑c.6.length : Int)) then (∀ M : Mem, (0 : Int) ≤ (↑i : Int) ∧ (↑i : Int) < (↑c.6.length : Int)) ∧ (∀ M : Mem, i < List.length c.6) ∧ (∀ M : Mem, 0 + 2 ≤ 2) ∧ (∀ M : Mem, i < List.length c.6) ∧ (∀ M : Mem, i < List.length c.6) ∧ lLo n (List.length (gL c.6 i).1) (List.length (gL c.6 i).2) (cT rows) (cI (gL c.6 i).1) (cI (gL c.6 i).2) fun (rows_1 : List (List Nat)) (ins tabs : List Int) => K [.at [0,1,1,0,0,1,1,0,0,1,0,1,1,1,1,1,1,1], .blk 8, .blk 7, .at [1,1,1,0,0,1,0,1,1,1,1,1,1,1], .rnd [0,0,1,0,1,1,1,1,1,1,1] M, .blk 6, .at [1,1,1,1,1,1,1,1]] (St.mk [(96, .v (vi64 0)), (95, .v (vi64 (↑(List.length (lookV rows_1 ins tabs)) : Int))), (94, .o 0), (19, .v (vi64 (↑i : Int))), (87, .v (vi64 (↑i : Int))), (86, .v (vi64 (↑c.6.length : Int))), (85, .x 1 []), (14, .o 2), (12, .x 3 []), (10, .p 4 0), (5, .p 5 0), (7, .p 6 0)] [.rowc 3 1 (List.length (lookV rows_1 ins tabs)) (.fn (cI (lookV rows_1 ins tabs))), .ext false (.s false 2 c.6.length (cL c.6)), .rowc 76 3 m (.fn (cQ os)), .ext false (.s false 1 n (cT rows)), .cells [.v (vi64 c.1), .v (vi64 c.2), .v (vi64 c.3), .x 7 [], .x 8 [], .x 9 [], .x 10 [], .x 11 [], .x 12 [], .x 13 [], .x 14 [], .v (vi64 so), .v (vi64 k), .o 15] 145, .cells [.v (vi64 c.1), .v (vi64 c.2), .v (vi64 c.3), .x 16 [], .x 17 [], .x 1 [], .x 18 []] 27, .cells [.x 19 [], .x 20 [], .x 21 [], .x 22 []] 49, .ext false (.s false 7 c.4.length (cN c.4)), .ext false (.s false 1 c.5.length (cI c.5)), .ext false (.s false 2 c.6.length (cL c.6)), .ext false (.s false 2 c.7.length (cK c.7)), .ext false (.s false 1 s.1.length (cT s.1)), .ext false (.s false 1 s.2.length (cT s.2)), .ext false (.s false 1 s.3.length (cT s.3)), .ext false (.s false 4 s.4.length (cP s.4)), .rowc 128 3 (List.length qs) (.fn (cQ qs)), .ext false (.s false 7 c.4.length (cN c.4)), .ext false (.s false 1 c.5.length (cI c.5)), .ext false (.s false 2 c.7.length (cK c.7)), .ext false (.s false 1 s.1.length (cT s.1)), .ext false (.s false 1 s.2.length (cT s.2)), .ext false (.s false 1 s.3.length (cT s.3)), .ext false (.s false 4 s.4.length (cP s.4))]) else K [.at [0,1,0,1,1,1,1,1,1,1,1], .blk 10, .at [1,1,1,1,1,1,1,1,1]] (St.mk [(111, .v (vi64 0)), (110, .v (vi64 (↑s.4.length : Int))), (109, .x 0 []), (14, .o 1), (10, .p 2 0)] [.ext false (.s false 4 s.4.length (cP s.4)), .rowc 76 3 m (.fn (cQ os)), .cells [.v (vi64 c.1), .v (vi64 c.2), .v (vi64 c.3), .x 3 [], .x 4 [], .x 5 [], .x 6 [], .x 7 [], .x 8 [], .x 9 [], .x 10 [], .v (vi64 so), .v (vi64 k), .o 11] 145, .ext false (.s false 7 c.4.length (cN c.4)), .ext false (.s false 1 c.5.length (cI c.5)), .ext false (.s false 2 c.6.length (cL c.6)), .ext false (.s false 2 c.7.length (cK c.7)), .ext false (.s false 1 s.1.length (cT s.1)), .ext false (.s false 1 s.2.length (cT s.2)), .ext false (.s false 1 s.3.length (cT s.3)), .ext false (.s false 4 s.4.length (cP s.4)), .rowc 128 3 (List.length qs) (.fn (cQ qs))])) := by kernel_rfl
theorem fa4 (c : Cir) (s : Sht) (so k : Int) (qs : List (Int × Int × Int)) (rows : List (List Nat)) (n : Nat) (os : List (Int × Int × Int)) (m : Nat) (ls : List Int) (i j M2 M : Nat) (K : List It → St → Prop) (R : SV → List HO → Prop) : W (xwp Try.prog X K79 [] 60 (fxOf Try.f25 [] [⟨[0,1,0,1,1,1,1], [38,37,12,10,5,7,2], [(12,44,1)]⟩, ⟨[0,1,0,1,1,1,1,1,1], [51,50,49,14,12,10,5,7,2], [(14,76,3)]⟩, ⟨[0,1,1,0,0,1,1,0,0,1,0,1,1,1,1,1,1], [17,18,16,15,51,50,49,14,12,10,5,7,2], []⟩, ⟨[0,1,0,1,1,1,1,1,1,1], [87,86,85,14,12,10,5,7], []⟩, ⟨[0,1,1,0,0,1,1,0,0,1,0,1,1,1,1,1,1,1], [96,95,94,19,87,86,85,14,12,10,5,7], []⟩, ⟨[0,1,0,1,1,1,1,1,1,1,1], [111,110,109,14,10], []⟩]) [] (.at [0,0,1,1,0,0,1,1,0,0,1,0,1,1,1,1,1,1,1] :: .rnd [0,0,1,1,0,0,1,1,0,0,1,0,1,1,1,1,1,1,1] M :: [.blk 8, .blk 7, .at [1,1,1,0,0,1,0,1,1,1,1,1,1,1], .rnd [0,0,1,0,1,1,1,1,1,1,1] M2, .blk 6, .at [1,1,1,1,1,1,1,1]]) (St.mk [(96, .v (vi64 (j : Int))), (95, .v (vi64 (↑(List.length (ls)) : Int))), (94, .o 0), (19, .v (vi64 (↑i : Int))), (87, .v (vi64 (↑i : Int))), (86, .v (vi64 (↑c.6.length : Int))), (85, .x 1 []), (14, .o 2), (12, .x 3 []), (10, .p 4 0), (5, .p 5 0), (7, .p 6 0)] [.rowc 3 1 (List.length (ls)) (.fn (cI (ls))), .ext false (.s false 2 c.6.length (cL c.6)), .rowc 76 3 m (.fn (cQ os)), .ext false (.s false 1 n (cT rows)), .cells [.v (vi64 c.1), .v (vi64 c.2), .v (vi64 c.3), .x 7 [], .x 8 [], .x 9 [], .x 10 [], .x 11 [], .x 12 [], .x 13 [], .x 14 [], .v (vi64 so), .v (vi64 k), .o 15] 145, .cells [.v (vi64 c.1), .v (vi64 c.2), .v (vi64 c.3), .x 16 [], .x 17 [], .x 1 [], .x 18 []] 27, .cells [.x 19 [], .x 20 [], .x 21 [], .x 22 []] 49, .ext false (.s false 7 c.4.length (cN c.4)), .ext false (.s false 1 c.5.length (cI c.5)), .ext false (.s false 2 c.6.length (cL c.6)), .ext false (.s false 2 c.7.length (cK c.7)), .ext false (.s false 1 s.1.length (cT s.1)), .ext false (.s false 1 s.2.length (cT s.2)), .ext false (.s false 1 s.3.length (cT s.3)), .ext false (.s false 4 s.4.length (cP s.4)), .rowc 128 3 (List.length qs) (.fn (cQ qs)), .ext false (.s false 7 c.4.length (cN c.4)), .ext false (.s false 1 c.5.length (cI c.5)), .ext false (.s false 2 c.7.length (cK c.7)), .ext false (.s false 1 s.1.length (cT s.1)), .ext false (.s false 1 s.2.length (cT s.2)), .ext false (.s false 1 s.3.length (cT s.3)), .ext false (.s false 4 s.4.length (cP s.4))]) K R) = W (bif decide ((↑j : Int) < (↑(List.length ls) : Int)) then (∀ M : Mem, (0 : Int) ≤ (↑j : Int) ∧ (↑j : Int) < (↑(List.length ls) : Int)) ∧ (∀ M : Mem, j < List.length ls) ∧ (∀ M : Mem, (m + 1) * 24 ≤ 140737488355328 ∧ m + 1 ≤ 140737488355328) ∧ K [.rnd [0,0,1,1,0,0,1,1,0,0,1,0,1,1,1,1,1,1,1] M, .blk 8, .blk 7, .at [1,1,1,0,0,1,0,1,1,1,1,1,1,1], .rnd [0,0,1,0,1,1,1,1,1,1,1] M2, .blk 6, .at [1,1,1,1,1,1,1,1]] (St.mk [(96, .v (vi64 (IntKind.wrap .i64 ((↑j : Int) + (1 : Int))))), (95, .v (vi64 (↑(List.length ls) : Int))), (94, .o 0), (19, .v (vi64 (↑i : Int))), (87, .v (vi64 (↑i : Int))), (86, .v (vi64 (↑c.6.length : Int))), (85, .x 1 []), (14, .o 2), (12, .x 3 []), (10, .p 4 0), (5, .p 5 0), (7, .p 6 0)] [.rowc 3 1 (List.length ls) (.fn (cI ls)), .ext false (.s false 2 c.6.length (cL c.6)), .rowc 76 3 (m + 1) (.app m (.fn (cQ os)) (.lit 3 [.v (vi64 2), .v (vi64 (↑i : Int)), .v (vi64 (gI ls j))])), .ext false (.s false 1 n (cT rows)), .cells [.v (vi64 c.1), .v (vi64 c.2), .v (vi64 c.3), .x 7 [], .x 8 [], .x 9 [], .x 10 [], .x 11 [], .x 12 [], .x 13 [], .x 14 [], .v (vi64 so), .v (vi64 k), .o 15] 145, .cells [.v (vi64 c.1), .v (vi64 c.2), .v (vi64 c.3), .x 16 [], .x 17 [], .x 1 [], .x 18 []] 27, .cells [.x 19 [], .x 20 [], .x 21 [], .x 22 []] 49, .ext false (.s false 7 c.4.length (cN c.4)), .ext false (.s false 1 c.5.length (cI c.5)), .ext false (.s false 2 c.6.length (cL c.6)), .ext false (.s false 2 c.7.length (cK c.7)), .ext false (.s false 1 s.1.length (cT s.1)), .ext false (.s false 1 s.2.length (cT s.2)), .ext false (.s false 1 s.3.length (cT s.3)), .ext false (.s false 4 s.4.length (cP s.4)), .rowc 128 3 (List.length qs) (.fn (cQ qs)), .ext false (.s false 7 c.4.length (cN c.4)), .ext false (.s false 1 c.5.length (cI c.5)), .ext false (.s false 2 c.7.length (cK c.7)), .ext false (.s false 1 s.1.length (cT s.1)), .ext false (.s false 1 s.2.length (cT s.2)), .ext false (.s false 1 s.3.length (cT s.3)), .ext false (.s false 4 s.4.length (cP s.4))]) else K [.rnd [0,0,1,0,1,1,1,1,1,1,1] M2, .blk 6, .at [1,1,1,1,1,1,1,1]] (St.mk [(87, .v (vi64 (IntKind.wrap .i64 ((↑i : Int) + (1 : Int))))), (86, .v (vi64 (↑c.6.length : Int))), (85, .x 0 []), (14, .o 1), (12, .x 2 []), (10, .p 3 0), (5, .p 4 0), (7, .p 5 0)] [.ext false (.s false 2 c.6.length (cL c.6)), .rowc 76 3 m (.fn (cQ os)), .ext false (.s false 1 n (cT rows)), .cells [.v (vi64 c.1), .v (vi64 c.2), .v (vi64 c.3), .x 6 [], .x 7 [], .x 8 [], .x 9 [], .x 10 [], .x 11 [], .x 12 [], .x 13 [], .v (vi64 so), .v (vi64 k), .o 14] 145, .cells [.v (vi64 c.1), .v (vi64 c.2), .v (vi64 c.3), .x 15 [], .x 16 [], .x 0 [], .x 17 []] 27, .cells [.x 18 [], .x 19 [], .x 20 [], .x 21 []] 49, .ext false (.s false 7 c.4.length (cN c.4)), .ext false (.s false 1 c.5.length (cI c.5)), .ext false (.s false 2 c.6.length (cL c.6)), .ext false (.s false 2 c.7.length (cK c.7)), .ext false (.s false 1 s.1.length (cT s.1)), .ext false (.s false 1 s.2.length (cT s.2)), .ext false (.s false 1 s.3.length (cT s.3)), .ext false (.s false 4 s.4.length (cP s.4)), .rowc 128 3 (List.length qs) (.fn (cQ qs)), .ext false (.s false 7 c.4.length (cN c.4)), .ext false (.s false 1 c.5.length (cI c.5)), .ext false (.s false 2 c.7.length (cK c.7)), .ext false (.s false 1 s.1.length (cT s.1)), .ext false (.s false 1 s.2.length (cT s.2)), .ext false (.s false 1 s.3.length (cT s.3)), .ext false (.s false 4 s.4.length (cP s.4))])) := by kernel_rfl
theorem fa5 (c : Cir) (s : Sht) (so k : Int) (qs : List (Int × Int × Int)) (rows : List (List Nat)) (n : Nat) (os : List (Int × Int × Int)) (m : Nat) (i M : Nat) (K : List It → St → Prop) (R : SV → List HO → Prop) : W (xwp Try.prog X K79 [] 60 (fxOf Try.f25 [] [⟨[0,1,0,1,1,1,1], [38,37,12,10,5,7,2], [(12,44,1)]⟩, ⟨[0,1,0,1,1,1,1,1,1], [51,50,49,14,12,10,5,7,2], [(14,76,3)]⟩, ⟨[0,1,1,0,0,1,1,0,0,1,0,1,1,1,1,1,1], [17,18,16,15,51,50,49,14,12,10,5,7,2], []⟩, ⟨[0,1,0,1,1,1,1,1,1,1], [87,86,85,14,12,10,5,7], []⟩, ⟨[0,1,1,0,0,1,1,0,0,1,0,1,1,1,1,1,1,1], [96,95,94,19,87,86,85,14,12,10,5,7], []⟩, ⟨[0,1,0,1,1,1,1,1,1,1,1], [111,110,109,14,10], []⟩]) [] (.at [0,0,1,0,1,1,1,1,1,1,1,1] :: .rnd [0,0,1,0,1,1,1,1,1,1,1,1] M :: [.blk 10, .at [1,1,1,1,1,1,1,1,1]]) (St.mk [(111, .v (vi64 (i : Int))), (110, .v (vi64 (↑s.4.length : Int))), (109, .x 0 []), (14, .o 1), (10, .p 2 0)] [.ext false (.s false 4 s.4.length (cP s.4)), .rowc 76 3 m (.fn (cQ os)), .cells [.v (vi64 c.1), .v (vi64 c.2), .v (vi64 c.3), .x 3 [], .x 4 [], .x 5 [], .x 6 [], .x 7 [], .x 8 [], .x 9 [], .x 10 [], .v (vi64 so), .v (vi64 k), .o 11] 145, .ext false (.s false 7 c.4.length (cN c.4)), .ext false (.s false 1 c.5.length (cI c.5)), .ext false (.s false 2 c.6.length (cL c.6)), .ext false (.s false 2 c.7.length (cK c.7)), .ext false (.s false 1 s.1.length (cT s.1)), .ext false (.s false 1 s.2.length (cT s.2)), .ext false (.s false 1 s.3.length (cT s.3)), .ext false (.s false 4 s.4.length (cP s.4)), .rowc 128 3 (List.length qs) (.fn (cQ qs))]) K R) = W (bif decide ((↑i : Int) < (↑s.4.length : Int)) then (∀ M : Mem, (0 : Int) ≤ (↑i : Int) ∧ (↑i : Int) < (↑s.4.length : Int)) ∧ (∀ M : Mem, i < List.length s.4) ∧ (∀ M : Mem, 0 + 4 ≤ 4) ∧ lFk (lc 14 [.v (vi64 c.1), .v (vi64 c.2), .v (vi64 c.3), .s false 7 c.4.length (cN c.4), .s false 1 c.5.length (cI c.5), .s false 2 c.6.length (cL c.6), .s false 2 c.7.length (cK c.7), .s false 1 s.1.length (cT s.1), .s false 1 s.2.length (cT s.2), .s false 1 s.3.length (cT s.3), .s false 4 s.4.length (cP s.4), .v (vi64 so), .v (vi64 k), .s false 3 (List.length qs) (cQ qs)]) fun (c_1 : Cir) (s_1 : Sht) (so_1 k_1 : Int) (qs_1 : List (Int × Int × Int)) => ((0 : Int) ≤ (gP s.4 i).1 ∧ (gP s.4 i).1 < (↑c_1.7.length : Int)) ∧ lFk (lc 14 [.v (vi64 c.1), .v (vi64 c.2), .v (vi64 c.3), .s false 7 c.4.length (cN c.4), .s false 1 c.5.length (cI c.5), .s false 2 c.6.length (cL c.6), .s false 2 c.7.length (cK c.7), .s false 1 s.1.length (cT s.1), .s false 1 s.2.length (cT s.2), .s false 1 s.3.length (cT s.3), .s false 4 s.4.length (cP s.4), .v (vi64 so), .v (vi64 k), .s false 3 (List.length qs) (cQ qs)]) fun (c_2 : Cir) (s_2 : Sht) (so_2 k_2 : Int) (qs_2 : List (Int × Int × Int)) => ((0 : Int) ≤ (gP s.4 i).2.2.1 ∧ (gP s.4 i).2.2.1 < (↑c_2.7.length : Int)) ∧ bif !decide ((eI (cellV c_1 s_1 so_1 (gP s.4 i).1 (gP s.4 i).2.1)) = (eI (cellV c_2 s_2 so_2 (gP s.4 i).2.2.1 (gP s.4 i).2.2.2))) then (∀ M : Mem, (m + 1) * 24 ≤ 140737488355328 ∧ m + 1 ≤ 140737488355328) ∧ K [.rnd [0,0,1,0,1,1,1,1,1,1,1,1] M, .blk 10, .at [1,1,1,1,1,1,1,1,1]] (St.mk [(111, .v (vi64 (IntKind.wrap .i64 ((↑i : Int) + (1 : Int))))), (110, .v (vi64 (↑s.4.length : Int))), (109, .x 0 []), (14, .o 1), (10, .p 2 0)] [.ext false (.s false 4 s.4.length (cP s.4)), .rowc 76 3 (m + 1) (.app m (.fn (cQ os)) (.lit 3 [.v (vi64 3), .v (vi64 (↑i : Int)), .v (vi64 0)])), .cells [.v (vi64 c.1), .v (vi64 c.2), .v (vi64 c.3), .x 3 [], .x 4 [], .x 5 [], .x 6 [], .x 7 [], .x 8 [], .x 9 [], .x 10 [], .v (vi64 so), .v (vi64 k), .o 11] 145, .ext false (.s false 7 c.4.length (cN c.4)), .ext false (.s false 1 c.5.length (cI c.5)), .ext false (.s false 2 c.6.length (cL c.6)), .ext false (.s false 2 c.7.length (cK c.7)), .ext false (.s false 1 s.1.length (cT s.1)), .ext false (.s false 1 s.2.length (cT s.2)), .ext false (.s false 1 s.3.length (cT s.3)), .ext false (.s false 4 s.4.length (cP s.4)), .rowc 128 3 (List.length qs) (.fn (cQ qs))]) else K [.rnd [0,0,1,0,1,1,1,1,1,1,1,1] M, .blk 10, .at [1,1,1,1,1,1,1,1,1]] (St.mk [(111, .v (vi64 (IntKind.wrap .i64 ((↑i : Int) + (1 : Int))))), (110, .v (vi64 (↑s.4.length : Int))), (109, .x 0 []), (14, .o 1), (10, .p 2 0)] [.ext false (.s false 4 s.4.length (cP s.4)), .rowc 76 3 m (.fn (cQ os)), .cells [.v (vi64 c.1), .v (vi64 c.2), .v (vi64 c.3), .x 3 [], .x 4 [], .x 5 [], .x 6 [], .x 7 [], .x 8 [], .x 9 [], .x 10 [], .v (vi64 so), .v (vi64 k), .o 11] 145, .ext false (.s false 7 c.4.length (cN c.4)), .ext false (.s false 1 c.5.length (cI c.5)), .ext false (.s false 2 c.6.length (cL c.6)), .ext false (.s false 2 c.7.length (cK c.7)), .ext false (.s false 1 s.1.length (cT s.1)), .ext false (.s false 1 s.2.length (cT s.2)), .ext false (.s false 1 s.3.length (cT s.3)), .ext false (.s false 4 s.4.length (cP s.4)), .rowc 128 3 (List.length qs) (.fn (cQ qs))]) else R (.tup [.o 0, .v (vi64 0)]) [.rowc 76 3 m (.fn (cQ os))]) := by kernel_rfl
noncomputable def fT0 (c : Cir) (s : Sht) (so k : Int) (qs : List (Int × Int × Int)) (rows : List (List Nat)) (u : Int) (i : Nat) : St := (St.mk [(38, .v (vi64 (i : Int))), (37, .v (vi64 u)), (12, .o 0), (10, .p 1 0), (5, .p 2 0), (7, .p 3 0), (2, .v (vi64 k))] [.rowc 44 1 rows.length (.fn (cT rows)), .cells [.v (vi64 c.1), .v (vi64 c.2), .v (vi64 c.3), .x 4 [], .x 5 [], .x 6 [], .x 7 [], .x 8 [], .x 9 [], .x 10 [], .x 11 [], .v (vi64 so), .v (vi64 k), .o 12] 145, .cells [.v (vi64 c.1), .v (vi64 c.2), .v (vi64 c.3), .x 13 [], .x 14 [], .x 15 [], .x 16 []] 27, .cells [.x 17 [], .x 18 [], .x 19 [], .x 20 []] 49, .ext false (.s false 7 c.4.length (cN c.4)), .ext false (.s false 1 c.5.length (cI c.5)), .ext false (.s false 2 c.6.length (cL c.6)), .ext false (.s false 2 c.7.length (cK c.7)), .ext false (.s false 1 s.1.length (cT s.1)), .ext false (.s false 1 s.2.length (cT s.2)), .ext false (.s false 1 s.3.length (cT s.3)), .ext false (.s false 4 s.4.length (cP s.4)), .rowc 128 3 (List.length (qs)) (.fn (cQ (qs))), .ext false (.s false 7 c.4.length (cN c.4)), .ext false (.s false 1 c.5.length (cI c.5)), .ext false (.s false 2 c.6.length (cL c.6)), .ext false (.s false 2 c.7.length (cK c.7)), .ext false (.s false 1 s.1.length (cT s.1)), .ext false (.s false 1 s.2.length (cT s.2)), .ext false (.s false 1 s.3.length (cT s.3)), .ext false (.s false 4 s.4.length (cP s.4))])
noncomputable def fT1 (c : Cir) (s : Sht) (so k : Int) (qs : List (Int × Int × Int)) (rows : List (List Nat)) (os : List (Int × Int × Int)) (i : Nat) : St := (St.mk [(51, .v (vi64 (i : Int))), (50, .v (vi64 (↑c.5.length : Int))), (49, .x 0 []), (14, .o 1), (12, .x 2 []), (10, .p 3 0), (5, .p 4 0), (7, .p 5 0), (2, .v (vi64 k))] [.ext false (.s false 1 c.5.length (cI c.5)), .rowc 76 3 os.length (.fn (cQ os)), .ext false (.s false 1 rows.length (cT rows)), .cells [.v (vi64 c.1), .v (vi64 c.2), .v (vi64 c.3), .x 6 [], .x 7 [], .x 8 [], .x 9 [], .x 10 [], .x 11 [], .x 12 [], .x 13 [], .v (vi64 so), .v (vi64 k), .o 14] 145, .cells [.v (vi64 c.1), .v (vi64 c.2), .v (vi64 c.3), .x 15 [], .x 0 [], .x 16 [], .x 17 []] 27, .cells [.x 18 [], .x 19 [], .x 20 [], .x 21 []] 49, .ext false (.s false 7 c.4.length (cN c.4)), .ext false (.s false 1 c.5.length (cI c.5)), .ext false (.s false 2 c.6.length (cL c.6)), .ext false (.s false 2 c.7.length (cK c.7)), .ext false (.s false 1 s.1.length (cT s.1)), .ext false (.s false 1 s.2.length (cT s.2)), .ext false (.s false 1 s.3.length (cT s.3)), .ext false (.s false 4 s.4.length (cP s.4)), .rowc 128 3 (List.length qs) (.fn (cQ qs)), .ext false (.s false 7 c.4.length (cN c.4)), .ext false (.s false 2 c.6.length (cL c.6)), .ext false (.s false 2 c.7.length (cK c.7)), .ext false (.s false 1 s.1.length (cT s.1)), .ext false (.s false 1 s.2.length (cT s.2)), .ext false (.s false 1 s.3.length (cT s.3)), .ext false (.s false 4 s.4.length (cP s.4))])
noncomputable def fT2 (c : Cir) (s : Sht) (so k : Int) (qs : List (Int × Int × Int)) (rows : List (List Nat)) (os : List (Int × Int × Int)) (i : Nat) (r to : Int) : St := (St.mk [(17, .v (vi64 r)), (18, .v (vi64 to)), (16, .v (vi64 (gI c.5 i))), (15, .v (vi64 (↑i : Int))), (51, .v (vi64 (↑i : Int))), (50, .v (vi64 (↑c.5.length : Int))), (49, .x 0 []), (14, .o 1), (12, .x 2 []), (10, .p 3 0), (5, .p 4 0), (7, .p 5 0), (2, .v (vi64 k))] [.ext false (.s false 1 c.5.length (cI c.5)), .rowc 76 3 os.length (.fn (cQ os)), .ext false (.s false 1 rows.length (cT rows)), .cells [.v (vi64 c.1), .v (vi64 c.2), .v (vi64 c.3), .x 6 [], .x 7 [], .x 8 [], .x 9 [], .x 10 [], .x 11 [], .x 12 [], .x 13 [], .v (vi64 so), .v (vi64 k), .o 14] 145, .cells [.v (vi64 c.1), .v (vi64 c.2), .v (vi64 c.3), .x 15 [], .x 0 [], .x 16 [], .x 17 []] 27, .cells [.x 18 [], .x 19 [], .x 20 [], .x 21 []] 49, .ext false (.s false 7 c.4.length (cN c.4)), .ext false (.s false 1 c.5.length (cI c.5)), .ext false (.s false 2 c.6.length (cL c.6)), .ext false (.s false 2 c.7.length (cK c.7)), .ext false (.s false 1 s.1.length (cT s.1)), .ext false (.s false 1 s.2.length (cT s.2)), .ext false (.s false 1 s.3.length (cT s.3)), .ext false (.s false 4 s.4.length (cP s.4)), .rowc 128 3 (List.length qs) (.fn (cQ qs)), .ext false (.s false 7 c.4.length (cN c.4)), .ext false (.s false 2 c.6.length (cL c.6)), .ext false (.s false 2 c.7.length (cK c.7)), .ext false (.s false 1 s.1.length (cT s.1)), .ext false (.s false 1 s.2.length (cT s.2)), .ext false (.s false 1 s.3.length (cT s.3)), .ext false (.s false 4 s.4.length (cP s.4))])
noncomputable def fT3 (c : Cir) (s : Sht) (so k : Int) (qs : List (Int × Int × Int)) (rows : List (List Nat)) (os : List (Int × Int × Int)) (i : Nat) : St := (St.mk [(87, .v (vi64 (i : Int))), (86, .v (vi64 (↑c.6.length : Int))), (85, .x 0 []), (14, .o 1), (12, .x 2 []), (10, .p 3 0), (5, .p 4 0), (7, .p 5 0)] [.ext false (.s false 2 c.6.length (cL c.6)), .rowc 76 3 os.length (.fn (cQ os)), .ext false (.s false 1 rows.length (cT rows)), .cells [.v (vi64 c.1), .v (vi64 c.2), .v (vi64 c.3), .x 6 [], .x 7 [], .x 8 [], .x 9 [], .x 10 [], .x 11 [], .x 12 [], .x 13 [], .v (vi64 so), .v (vi64 k), .o 14] 145, .cells [.v (vi64 c.1), .v (vi64 c.2), .v (vi64 c.3), .x 15 [], .x 16 [], .x 0 [], .x 17 []] 27, .cells [.x 18 [], .x 19 [], .x 20 [], .x 21 []] 49, .ext false (.s false 7 c.4.length (cN c.4)), .ext false (.s false 1 c.5.length (cI c.5)), .ext false (.s false 2 c.6.length (cL c.6)), .ext false (.s false 2 c.7.length (cK c.7)), .ext false (.s false 1 s.1.length (cT s.1)), .ext false (.s false 1 s.2.length (cT s.2)), .ext false (.s false 1 s.3.length (cT s.3)), .ext false (.s false 4 s.4.length (cP s.4)), .rowc 128 3 (List.length qs) (.fn (cQ qs)), .ext false (.s false 7 c.4.length (cN c.4)), .ext false (.s false 1 c.5.length (cI c.5)), .ext false (.s false 2 c.7.length (cK c.7)), .ext false (.s false 1 s.1.length (cT s.1)), .ext false (.s false 1 s.2.length (cT s.2)), .ext false (.s false 1 s.3.length (cT s.3)), .ext false (.s false 4 s.4.length (cP s.4))])
noncomputable def fT4 (c : Cir) (s : Sht) (so k : Int) (qs : List (Int × Int × Int)) (rows : List (List Nat)) (os : List (Int × Int × Int)) (ls : List Int) (i j : Nat) : St := (St.mk [(96, .v (vi64 (j : Int))), (95, .v (vi64 (↑(List.length (ls)) : Int))), (94, .o 0), (19, .v (vi64 (↑i : Int))), (87, .v (vi64 (↑i : Int))), (86, .v (vi64 (↑c.6.length : Int))), (85, .x 1 []), (14, .o 2), (12, .x 3 []), (10, .p 4 0), (5, .p 5 0), (7, .p 6 0)] [.rowc 3 1 (List.length (ls)) (.fn (cI (ls))), .ext false (.s false 2 c.6.length (cL c.6)), .rowc 76 3 os.length (.fn (cQ os)), .ext false (.s false 1 rows.length (cT rows)), .cells [.v (vi64 c.1), .v (vi64 c.2), .v (vi64 c.3), .x 7 [], .x 8 [], .x 9 [], .x 10 [], .x 11 [], .x 12 [], .x 13 [], .x 14 [], .v (vi64 so), .v (vi64 k), .o 15] 145, .cells [.v (vi64 c.1), .v (vi64 c.2), .v (vi64 c.3), .x 16 [], .x 17 [], .x 1 [], .x 18 []] 27, .cells [.x 19 [], .x 20 [], .x 21 [], .x 22 []] 49, .ext false (.s false 7 c.4.length (cN c.4)), .ext false (.s false 1 c.5.length (cI c.5)), .ext false (.s false 2 c.6.length (cL c.6)), .ext false (.s false 2 c.7.length (cK c.7)), .ext false (.s false 1 s.1.length (cT s.1)), .ext false (.s false 1 s.2.length (cT s.2)), .ext false (.s false 1 s.3.length (cT s.3)), .ext false (.s false 4 s.4.length (cP s.4)), .rowc 128 3 (List.length qs) (.fn (cQ qs)), .ext false (.s false 7 c.4.length (cN c.4)), .ext false (.s false 1 c.5.length (cI c.5)), .ext false (.s false 2 c.7.length (cK c.7)), .ext false (.s false 1 s.1.length (cT s.1)), .ext false (.s false 1 s.2.length (cT s.2)), .ext false (.s false 1 s.3.length (cT s.3)), .ext false (.s false 4 s.4.length (cP s.4))])
noncomputable def fT5 (c : Cir) (s : Sht) (so k : Int) (qs : List (Int × Int × Int)) (os : List (Int × Int × Int)) (i : Nat) : St := (St.mk [(111, .v (vi64 (i : Int))), (110, .v (vi64 (↑s.4.length : Int))), (109, .x 0 []), (14, .o 1), (10, .p 2 0)] [.ext false (.s false 4 s.4.length (cP s.4)), .rowc 76 3 os.length (.fn (cQ os)), .cells [.v (vi64 c.1), .v (vi64 c.2), .v (vi64 c.3), .x 3 [], .x 4 [], .x 5 [], .x 6 [], .x 7 [], .x 8 [], .x 9 [], .x 10 [], .v (vi64 so), .v (vi64 k), .o 11] 145, .ext false (.s false 7 c.4.length (cN c.4)), .ext false (.s false 1 c.5.length (cI c.5)), .ext false (.s false 2 c.6.length (cL c.6)), .ext false (.s false 2 c.7.length (cK c.7)), .ext false (.s false 1 s.1.length (cT s.1)), .ext false (.s false 1 s.2.length (cT s.2)), .ext false (.s false 1 s.3.length (cT s.3)), .ext false (.s false 4 s.4.length (cP s.4)), .rowc 128 3 (List.length qs) (.fn (cQ qs))])
theorem fa5_loop (c : Cir) (hc : c.ok) (s : Sht) (hs : s.ok) (so k : Int) (qs : List (Int × Int × Int)) (fin : List (Int × Int × Int)) (hf : fin.length ≤ 100000) (Q : SV → List HO → Prop) (hq : Q (.tup [.o 0, .v (vi64 0)]) [.rowc 76 3 fin.length (.fn (cQ fin))]) (hcp : ∀ x ∈ s.cp, (0 ≤ x.1 ∧ x.1 < (c.eqs.length : Int)) ∧ (0 ≤ x.2.2.1 ∧ x.2.2.1 < (c.eqs.length : Int))) (hp : s.cp.length ≤ 256) (hk0 : 0 ≤ k) (hqs : qs.length ≤ 4000000000000) : ∀ (d i : Nat) (os : List (Int × Int × Int)), i + d = s.cp.length → fin = os ++ copF c s so (i : Int) (s.cp.drop i) →
    FOk Try.prog Try.f25 Q (.rnd [0,0,1,0,1,1,1,1,1,1,1,1] (d + 1) :: [.blk 10, .at [1, 1, 1, 1, 1, 1, 1, 1, 1]]) (fT5 c s so k qs os i)
  | 0, i, os, hd, he => by
    refine FOk.rnd (run_sound hm 60 ((fa5 c s so k qs [] 0 os os.length i 0 _ _).mpr ⟨?_⟩))
    rw [cond_dec, if_neg (by omega)]
    rw [show i = s.cp.length by omega, List.drop_length, copF, List.append_nil] at he
    rw [he] at hq
    exact hq
  | d + 1, i, os, hd, he => by
    have hi : i < s.cp.length := by omega
    obtain ⟨hx, hy⟩ := hcp _ (gP_mem hi)
    refine FOk.rnd (run_sound hm 60 ((fa5 c s so k qs [] 0 os os.length i (d + 1) _ _).mpr ⟨?_⟩))
    rw [cond_dec, if_pos (by omega), wrap_inc _ (by omega)]
    rw [drop_gP hi, copF, show (i : Int) + 1 = ((i + 1 : Nat) : Int) by omega] at he
    refine And.intro (fun _ => by omega) (And.intro (fun _ => by omega) (And.intro (fun _ => by omega) (lFk_mk c hc s hs so k hk0 qs hqs ⟨hx, lFk_mk c hc s hs so k hk0 qs hqs ⟨hy, ?_⟩⟩)))
    rw [cond_not]
    refine cond_intro (fun h => ?_) (fun h => ?_)
    · rw [h, cond_true, List.nil_append] at he
      exact fa5_loop c hc s hs so k qs fin hf Q hq hcp hp hk0 hqs d (i + 1) os (by omega) he
    · rw [h, cond_false, ← List.append_assoc] at he
      have hlen : os.length + 1 ≤ 100000 := by
        have := congrArg List.length he
        simp only [List.length_append, List.length_cons, List.length_nil] at this
        omega
      exact And.intro (fun _ => by omega) (FOk.cv (fa5_loop c hc s hs so k qs fin hf Q hq hcp hp hk0 hqs d (i + 1) (os ++ [((3 : Int), (i : Int), (0 : Int))]) (by omega) he) ⟨HE.refl _, ⟨rfl, rfl, (by rw [List.length_append]; rfl), cQ_snoc ((3 : Int), (i : Int), (0 : Int)) rfl⟩, HE.refl _, HE.refl _, HE.refl _, HE.refl _, HE.refl _, HE.refl _, HE.refl _, HE.refl _, HE.refl _, HE.refl _, trivial⟩)
theorem fa4_loop (c : Cir) (hc : c.ok) (s : Sht) (hs : s.ok) (so k : Int) (qs : List (Int × Int × Int)) (fin : List (Int × Int × Int)) (hf : fin.length ≤ 100000) (Q : SV → List HO → Prop) (hq : Q (.tup [.o 0, .v (vi64 0)]) [.rowc 76 3 fin.length (.fn (cQ fin))]) (rows : List (List Nat)) (ls : List Int) (hl : ls.length ≤ 100000) (rest : List (Int × Int × Int)) (i M : Nat) (hi : i ≤ 100000) (next : ∀ os, fin = os ++ rest → FOk Try.prog Try.f25 Q (.rnd [0,0,1,0,1,1,1,1,1,1,1] M :: [.blk 6, .at [1, 1, 1, 1, 1, 1, 1, 1]]) (fT3 c s so k qs rows os (i + 1))) : ∀ (d j : Nat) (os : List (Int × Int × Int)), j + d = ls.length → fin = os ++ ((ls.drop j).map (fun r => ((2 : Int), (i : Int), r)) ++ rest) →
    FOk Try.prog Try.f25 Q (.rnd [0,0,1,1,0,0,1,1,0,0,1,0,1,1,1,1,1,1,1] (d + 1) :: [.blk 8, .blk 7, .at [1, 1, 1, 0, 0, 1, 0, 1, 1, 1, 1, 1, 1, 1], .rnd [0, 0, 1, 0, 1, 1, 1, 1, 1, 1, 1] M, .blk 6, .at [1, 1, 1, 1, 1, 1, 1, 1]]) (fT4 c s so k qs rows os ls i j)
  | 0, j, os, hd, he => by
    refine FOk.rnd (run_sound hm 60 ((fa4 c s so k qs rows rows.length os os.length ls i j M 0 _ _).mpr ⟨?_⟩))
    rw [cond_dec, if_neg (by omega), wrap_inc _ (by omega)]
    rw [show j = ls.length by omega, List.drop_length, List.map_nil, List.nil_append] at he
    exact next os he
  | d + 1, j, os, hd, he => by
    have hj : j < ls.length := by omega
    rw [drop_gI hj, List.map_cons, List.cons_append, ← List.singleton_append, ← List.append_assoc] at he
    have hlen : os.length + 1 ≤ 100000 := by
      have := congrArg List.length he
      simp only [List.length_append, List.length_cons, List.length_nil] at this
      omega
    refine FOk.rnd (run_sound hm 60 ((fa4 c s so k qs rows rows.length os os.length ls i j M (d + 1) _ _).mpr ⟨?_⟩))
    rw [cond_dec, if_pos (by omega), wrap_inc j (by omega)]
    exact And.intro (fun _ => by omega) (And.intro (fun _ => by omega) (And.intro (fun _ => by omega) (FOk.cv (fa4_loop c hc s hs so k qs fin hf Q hq rows ls hl rest i M hi next d (j + 1) (os ++ [((2 : Int), (i : Int), gI ls j)]) (by omega) he) ⟨HE.refl _, HE.refl _, ⟨rfl, rfl, (by rw [List.length_append]; rfl), cQ_snoc ((2 : Int), (i : Int), gI ls j) rfl⟩, HE.refl _, HE.refl _, HE.refl _, HE.refl _, HE.refl _, HE.refl _, HE.refl _, HE.refl _, HE.refl _, HE.refl _, HE.refl _, HE.refl _, HE.refl _, HE.refl _, HE.refl _, HE.refl _, HE.refl _, HE.refl _, HE.refl _, HE.refl _, trivial⟩)))
theorem fa3_loop (c : Cir) (hc : c.ok) (s : Sht) (hs : s.ok) (so k : Int) (qs : List (Int × Int × Int)) (fin : List (Int × Int × Int)) (hf : fin.length ≤ 100000) (Q : SV → List HO → Prop) (hq : Q (.tup [.o 0, .v (vi64 0)]) [.rowc 76 3 fin.length (.fn (cQ fin))]) (hcp : ∀ x ∈ s.cp, (0 ≤ x.1 ∧ x.1 < (c.eqs.length : Int)) ∧ (0 ≤ x.2.2.1 ∧ x.2.2.1 < (c.eqs.length : Int))) (hp : s.cp.length ≤ 256) (hk0 : 0 ≤ k) (hqs : qs.length ≤ 4000000000000) (rows : List (List Nat)) (hr : rows.length ≤ 4000) (hlk : ∀ l ∈ c.looks, l.1.length ≤ 4 ∧ l.2.length ≤ 4 ∧ (∀ g ∈ l.1, 0 ≤ g ∧ g < (c.nodes.length : Int)) ∧ ∀ g ∈ l.2, 0 ≤ g ∧ g < (c.nodes.length : Int)) (hrl : ∀ r ∈ rows, r.length = c.nodes.length) (hln : c.looks.length ≤ 4) : ∀ (d i : Nat) (os : List (Int × Int × Int)), i + d = c.looks.length → fin = os ++ (looksF rows (i : Int) (c.looks.drop i) ++ copF c s so 0 s.cp) →
    FOk Try.prog Try.f25 Q (.rnd [0,0,1,0,1,1,1,1,1,1,1] (d + 1) :: [.blk 6, .at [1, 1, 1, 1, 1, 1, 1, 1]]) (fT3 c s so k qs rows os i)
  | 0, i, os, hd, he => by
    refine FOk.rnd (run_sound hm 60 ((fa3 c s so k qs rows rows.length os os.length i 0 _ _).mpr ⟨?_⟩))
    rw [cond_dec, if_neg (by omega)]
    rw [show i = c.looks.length by omega, List.drop_length, looksF, List.nil_append] at he
    exact FOk.loop (s.cp.length + 1) (by kernel_rfl) (fa5_loop c hc s hs so k qs fin hf Q hq hcp hp hk0 hqs s.cp.length 0 os (by omega) he)
  | d + 1, i, os, hd, he => by
    have hi : i < c.looks.length := by omega
    obtain ⟨l1, l2, g1, g2⟩ := hlk _ (gL_mem hi)
    rw [drop_gL hi, looksF, show (i : Int) + 1 = ((i + 1 : Nat) : Int) by omega, List.append_assoc] at he
    have hml := missT_len (keysT rows (gL c.looks i).2) (gL c.looks i).1 rows 0
    refine FOk.rnd (run_sound hm 60 ((fa3 c s so k qs rows rows.length os os.length i (d + 1) _ _).mpr ⟨?_⟩))
    rw [cond_dec, if_pos (by omega)]
    refine And.intro (fun _ => by omega) (And.intro (fun _ => by omega) (And.intro (fun _ => by omega) (And.intro (fun _ => by omega) (And.intro (fun _ => by omega) (⟨⟨rows, (gL c.looks i).1, (gL c.looks i).2, ⟨rfl, IsC.refl _ _ _⟩, ⟨rfl, IsC.refl _ _ _⟩, ⟨rfl, IsC.refl _ _ _⟩, by omega, l1, l2, fun r hr2 => ⟨fun g hg => by rw [hrl r hr2]; exact g1 g hg, fun g hg => by rw [hrl r hr2]; exact g2 g hg⟩, ?_⟩⟩)))))
    exact FOk.loop ((lookV rows (gL c.looks i).1 (gL c.looks i).2).length + 1) (by kernel_rfl) (fa4_loop c hc s hs so k qs fin hf Q hq rows (lookV rows (gL c.looks i).1 (gL c.looks i).2) (by rw [lookV]; omega) _ i (d + 1) (by omega) (fun os2 he2 => fa3_loop c hc s hs so k qs fin hf Q hq hcp hp hk0 hqs rows hr hlk hrl hln d (i + 1) os2 (by omega) he2) (lookV rows (gL c.looks i).1 (gL c.looks i).2).length 0 os (by omega) he)
theorem fa2_loop (c : Cir) (hc : c.ok) (s : Sht) (hs : s.ok) (so k : Int) (qs : List (Int × Int × Int)) (fin : List (Int × Int × Int)) (hf : fin.length ≤ 100000) (Q : SV → List HO → Prop) (hq : Q (.tup [.o 0, .v (vi64 0)]) [.rowc 76 3 fin.length (.fn (cQ fin))]) (rows : List (List Nat)) (hr : rows.length ≤ 4000) (i : Nat) (hi : i < c.gates.length) (hi2 : i ≤ 100000) (hg : ∀ r ∈ rows, 0 ≤ gI c.gates i ∧ gI c.gates i < (r.length : Int)) (rest : List (Int × Int × Int)) (M : Nat) (to : Int) (hto : to ≤ (rows.length : Int)) (next : ∀ os, fin = os ++ rest → FOk Try.prog Try.f25 Q (.rnd [0,0,1,0,1,1,1,1,1,1] M :: [.blk 2, .at [1, 1, 1, 1, 1, 1, 1]]) (fT1 c s so k qs rows os (i + 1))) : ∀ (d : Nat) (r : Int) (os : List (Int × Int × Int)), 0 ≤ r → (to - r).toNat = d → fin = os ++ (gateR rows (gI c.gates i) (i : Int) d r ++ rest) →
    FOk Try.prog Try.f25 Q (.rnd [0,0,1,1,0,0,1,1,0,0,1,0,1,1,1,1,1,1] (d + 1) :: [.blk 4, .blk 3, .at [1, 1, 1, 0, 0, 1, 0, 1, 1, 1, 1, 1, 1], .rnd [0, 0, 1, 0, 1, 1, 1, 1, 1, 1] M, .blk 2, .at [1, 1, 1, 1, 1, 1, 1]]) (fT2 c s so k qs rows os i r to)
  | 0, r, os, h0, hd, he => by
    refine FOk.rnd (run_sound hm 60 ((fa2 c s so k qs rows rows.length os os.length i M 0 r to _ _).mpr ⟨?_⟩))
    rw [cond_dec, if_neg (by omega), wrap_inc _ (by omega)]
    rw [gateR, List.nil_append] at he
    exact next os he
  | d + 1, r, os, h0, hd, he => by
    rw [gateR] at he
    have hgr := hg _ (gT_mem (show r.toNat < rows.length by omega))
    refine FOk.rnd (run_sound hm 60 ((fa2 c s so k qs rows rows.length os os.length i M (d + 1) r to _ _).mpr ⟨?_⟩))
    rw [cond_dec, if_pos (by omega), wrap_in (r + 1) (by omega)]
    refine And.intro (fun _ => by omega) (And.intro (fun _ => by omega) (And.intro (fun _ => by omega) (And.intro (fun _ => by omega) (And.intro (fun _ => by omega) (And.intro (fun _ => by omega) (?_))))))
    rw [cond_not]
    refine cond_intro (fun h => ?_) (fun h => ?_)
    · rw [h, cond_true, List.nil_append] at he
      exact fa2_loop c hc s hs so k qs fin hf Q hq rows hr i hi hi2 hg rest M to hto next d (r + 1) os (by omega) (by omega) he
    · rw [h, cond_false, List.append_assoc, ← List.append_assoc] at he
      have hlen : os.length + 1 ≤ 100000 := by
        have := congrArg List.length he
        simp only [List.length_append, List.length_cons, List.length_nil] at this
        omega
      exact And.intro (fun _ => by omega) (FOk.cv (fa2_loop c hc s hs so k qs fin hf Q hq rows hr i hi hi2 hg rest M to hto next d (r + 1) (os ++ [((1 : Int), (i : Int), r)]) (by omega) (by omega) he) ⟨HE.refl _, ⟨rfl, rfl, (by rw [List.length_append]; rfl), cQ_snoc ((1 : Int), (i : Int), r) rfl⟩, HE.refl _, HE.refl _, HE.refl _, HE.refl _, HE.refl _, HE.refl _, HE.refl _, HE.refl _, HE.refl _, HE.refl _, HE.refl _, HE.refl _, HE.refl _, HE.refl _, HE.refl _, HE.refl _, HE.refl _, HE.refl _, HE.refl _, HE.refl _, trivial⟩)
theorem fa1_loop (c : Cir) (hc : c.ok) (s : Sht) (hs : s.ok) (so k : Int) (qs : List (Int × Int × Int)) (fin : List (Int × Int × Int)) (hf : fin.length ≤ 100000) (Q : SV → List HO → Prop) (hq : Q (.tup [.o 0, .v (vi64 0)]) [.rowc 76 3 fin.length (.fn (cQ fin))]) (hcp : ∀ x ∈ s.cp, (0 ≤ x.1 ∧ x.1 < (c.eqs.length : Int)) ∧ (0 ≤ x.2.2.1 ∧ x.2.2.1 < (c.eqs.length : Int))) (hp : s.cp.length ≤ 256) (hk0 : 0 ≤ k) (hqs : qs.length ≤ 4000000000000) (rows : List (List Nat)) (hr : rows.length ≤ 4000) (hlk : ∀ l ∈ c.looks, l.1.length ≤ 4 ∧ l.2.length ≤ 4 ∧ (∀ g ∈ l.1, 0 ≤ g ∧ g < (c.nodes.length : Int)) ∧ ∀ g ∈ l.2, 0 ≤ g ∧ g < (c.nodes.length : Int)) (hrl : ∀ r ∈ rows, r.length = c.nodes.length) (hln : c.looks.length ≤ 4) (h0 : chkC c = 0) (hk5 : k ≤ 5) (hru : (rows.length : Int) = usN k) : ∀ (d i : Nat) (os : List (Int × Int × Int)), i + d = c.gates.length → fin = os ++ (gatesF c k rows (i : Int) (c.gates.drop i) ++ (looksF rows 0 c.looks ++ copF c s so 0 s.cp)) →
    FOk Try.prog Try.f25 Q (.rnd [0,0,1,0,1,1,1,1,1,1] (d + 1) :: [.blk 2, .at [1, 1, 1, 1, 1, 1, 1]]) (fT1 c s so k qs rows os i)
  | 0, i, os, hd, he => by
    refine FOk.rnd (run_sound hm 60 ((fa1 c s so k qs rows rows.length os os.length i 0 _ _).mpr ⟨?_⟩))
    rw [cond_dec, if_neg (by omega)]
    rw [show i = c.gates.length by omega, List.drop_length, gatesF, List.nil_append] at he
    exact FOk.loop (c.looks.length + 1) (by kernel_rfl) (fa3_loop c hc s hs so k qs fin hf Q hq hcp hp hk0 hqs rows hr hlk hrl hln c.looks.length 0 os (by omega) he)
  | d + 1, i, os, hd, he => by
    have hi : i < c.gates.length := by omega
    have hin := gates_in h0 _ (gI_mem hi)
    have hl := chkC_len h0
    have hb := rows_bnd (x := gI c.gates i) h0 (show k ≤ 10 by omega)
    rw [drop_gI hi, gatesF, show (i : Int) + 1 = ((i + 1 : Nat) : Int) by omega, List.append_assoc] at he
    refine FOk.rnd (run_sound hm 60 ((fa1 c s so k qs rows rows.length os os.length i (d + 1) _ _).mpr ⟨?_⟩))
    rw [cond_dec, if_pos (by omega)]
    refine And.intro (fun _ => by omega) (And.intro (fun _ => by omega) (lC_mk c hc ?_))
    exact FOk.loop (((rowsV c k (gI c.gates i)).2 - (rowsV c k (gI c.gates i)).1).toNat + 1) (by kernel_rfl) (fa2_loop c hc s hs so k qs fin hf Q hq rows hr i hi (by omega) (fun r hr2 => by rw [hrl r hr2]; exact hin) _ (d + 1) _ (by omega) (fun os2 he2 => fa1_loop c hc s hs so k qs fin hf Q hq hcp hp hk0 hqs rows hr hlk hrl hln h0 hk5 hru d (i + 1) os2 (by omega) he2) _ _ os hb.1 rfl he)
theorem fa0_loop (c : Cir) (hc : c.ok) (s : Sht) (hs : s.ok) (so k : Int) (qs : List (Int × Int × Int)) (fin : List (Int × Int × Int)) (hf : fin.length ≤ 100000) (Q : SV → List HO → Prop) (hq : Q (.tup [.o 0, .v (vi64 0)]) [.rowc 76 3 fin.length (.fn (cQ fin))]) (hcp : ∀ x ∈ s.cp, (0 ≤ x.1 ∧ x.1 < (c.eqs.length : Int)) ∧ (0 ≤ x.2.2.1 ∧ x.2.2.1 < (c.eqs.length : Int))) (hp : s.cp.length ≤ 256) (hk0 : 0 ≤ k) (hqs : qs.length ≤ 4000000000000) (h0 : chkC c = 0) (hso : fE so = 0) (hk5 : k ≤ 5) (he : fin = fltV c s so k) (hqq : qs = qsN [] c.nodes) : ∀ (d i : Nat) (rows : List (List Nat)), i + d = (usN k).toNat → rows = rowsA c s so k i →
    FOk Try.prog Try.f25 Q (.rnd [0,0,1,0,1,1,1,1] (d + 1) :: [.blk 0, .at [1, 1, 1, 1, 1]]) (fT0 c s so k qs rows (usN k) i)
  | 0, i, rows, hd, hrw => by
    have hu := usN_le hk5
    have hl := chkC_len h0
    have hrl : rows.length = (usN k).toNat := by rw [hrw, rowsA_ok]; omega
    refine FOk.rnd (run_sound hm 60 ((fa0 c s so k qs rows rows.length (usN k) i 0 _ _).mpr ⟨?_⟩))
    rw [cond_dec, if_neg (by omega)]
    refine FOk.frz 2 rfl (FOk.norm (ks := [51,50,49,14,12,10,5,7,2]) (nl := []) (st' := (St.mk [(51, SV.v (vi64 (0 : Int))), (50, SV.v (vi64 (↑(List.length c.5) : Int))), (49, SV.x 0 []), (14, SV.o 1), (12, SV.x 2 []), (10, SV.p 3 0), (5, SV.p 4 0), (7, SV.p 5 0), (2, SV.v (vi64 k))] [HO.ext false (Cell.s false 1 (List.length c.5) (cI c.5)), HO.rowc 76 3 0 (Ct.lit 1 []), HO.ext false (Cell.s false 1 rows.length (cT rows)), HO.cells [SV.v (vi64 c.1), SV.v (vi64 c.2), SV.v (vi64 c.3), SV.x 6 [], SV.x 7 [], SV.x 8 [], SV.x 9 [], SV.x 10 [], SV.x 11 [], SV.x 12 [], SV.x 13 [], SV.v (vi64 so), SV.v (vi64 k), SV.o 14] 145, HO.cells [SV.v (vi64 c.1), SV.v (vi64 c.2), SV.v (vi64 c.3), SV.x 15 [], SV.x 0 [], SV.x 16 [], SV.x 17 []] 27, HO.cells [SV.x 18 [], SV.x 19 [], SV.x 20 [], SV.x 21 []] 49, HO.ext false (Cell.s false 7 (List.length c.4) (cN c.4)), HO.ext false (Cell.s false 1 (List.length c.5) (cI c.5)), HO.ext false (Cell.s false 2 (List.length c.6) (cL c.6)), HO.ext false (Cell.s false 2 (List.length c.7) (cK c.7)), HO.ext false (Cell.s false 1 (List.length s.1) (cT s.1)), HO.ext false (Cell.s false 1 (List.length s.2) (cT s.2)), HO.ext false (Cell.s false 1 (List.length s.3) (cT s.3)), HO.ext false (Cell.s false 4 (List.length s.4) (cP s.4)), HO.rowc 128 3 (List.length qs) (Ct.fn (cQ qs)), HO.ext false (Cell.s false 7 (List.length c.4) (cN c.4)), HO.ext false (Cell.s false 2 (List.length c.6) (cL c.6)), HO.ext false (Cell.s false 2 (List.length c.7) (cK c.7)), HO.ext false (Cell.s false 1 (List.length s.1) (cT s.1)), HO.ext false (Cell.s false 1 (List.length s.2) (cT s.2)), HO.ext false (Cell.s false 1 (List.length s.3) (cT s.3)), HO.ext false (Cell.s false 4 (List.length s.4) (cP s.4))])) (by kernel_rfl) ?_)
    exact FOk.loop (c.gates.length + 1) (by kernel_rfl) (FOk.cv (fa1_loop c hc s hs so k qs fin hf Q hq hcp hp hk0 hqs rows (by omega) (looks_in h0) (by rw [hrw]; exact rowsA_mem h0 s hso) hl.2.2.1 h0 hk5 (by omega) c.gates.length 0 [] (by omega) (by rw [he, fltV, hrw, show i = (usN k).toNat by omega]; rfl)) ⟨HE.refl _, ⟨rfl, rfl, rfl, fun k hk => by simp at hk⟩, HE.refl _, HE.refl _, HE.refl _, HE.refl _, HE.refl _, HE.refl _, HE.refl _, HE.refl _, HE.refl _, HE.refl _, HE.refl _, HE.refl _, HE.refl _, HE.refl _, HE.refl _, HE.refl _, HE.refl _, HE.refl _, HE.refl _, HE.refl _, trivial⟩)
  | d + 1, i, rows, hd, hrw => by
    have hu := usN_le hk5
    have hrl : rows.length = i := by rw [hrw, rowsA_ok]
    have hn := hc.n.2
    refine FOk.rnd (run_sound hm 60 ((fa0 c s so k qs rows rows.length (usN k) i (d + 1) _ _).mpr ⟨?_⟩))
    rw [cond_dec, if_pos (by omega), wrap_inc _ (by omega)]
    refine lFk_mk c hc s hs so k hk0 qs hqs (And.intro (fun _ => by omega) ?_)
    exact FOk.cv (fa0_loop c hc s hs so k qs fin hf Q hq hcp hp hk0 hqs h0 hso hk5 he hqq d (i + 1) (rows ++ [rowV c s so k qs (i : Int)]) (by omega) (by rw [hrw, hqq, rowsA_succ])) ⟨⟨rfl, rfl, (by rw [List.length_append]; rfl), cT_snoc _ rfl⟩, HE.refl _, HE.refl _, HE.refl _, HE.refl _, HE.refl _, HE.refl _, HE.refl _, HE.refl _, HE.refl _, HE.refl _, HE.refl _, HE.refl _, HE.refl _, HE.refl _, HE.refl _, HE.refl _, HE.refl _, HE.refl _, HE.refl _, HE.refl _, trivial⟩
theorem bFlt : Try.f25.body.isSome = true := by kernel_rfl
theorem nFlt (c : Cir) (so k : Int) : Nat.ble ([.v (.int .i64 so), .agg [.v (.int .i64 c.fx), .v (.int .i64 c.ad), .v (.int .i64 c.ins), .x 0 [], .x 1 [], .x 2 [], .x 3 []], .v (.int .i64 k), .agg [.x 4 [], .x 5 [], .x 6 [], .x 7 []]] : List SV).length Try.f25.ntmps = true := by kernel_rfl
theorem flt_ok (c : Cir) (hc : c.ok) (s : Sht) (hs : s.ok) (so k : Int) (Q : SV → List HO → Prop) (hq : Q (.tup [.o 0, .v (.int .i64 (fltR c s so k).2)]) [.rowc 76 3 (fltR c s so k).1.length (.fn (cQ (fltR c s so k).1))]) : FnOk Try.prog 25 [.v (.int .i64 so), .agg [.v (.int .i64 c.fx), .v (.int .i64 c.ad), .v (.int .i64 c.ins), .x 0 [], .x 1 [], .x 2 [], .x 3 []], .v (.int .i64 k), .agg [.x 4 [], .x 5 [], .x 6 [], .x 7 []]] [.ext false (.s false 7 c.nodes.length (cN c.nodes)), .ext false (.s false 1 c.gates.length (cI c.gates)), .ext false (.s false 2 c.looks.length (cL c.looks)), .ext false (.s false 2 c.eqs.length (cK c.eqs)), .ext false (.s false 1 s.fx.length (cT s.fx)), .ext false (.s false 1 s.ad.length (cT s.ad)), .ext false (.s false 1 s.is.length (cT s.is)), .ext false (.s false 4 s.cp.length (cP s.cp))] Q := by
  refine FnOk.mono (FnOk.eqv (r0 := .tup [.o 0, .v (.int .i64 (fltR c s so k).2)]) (h0 := [.rowc 76 3 (fltR c s so k).1.length (.fn (cQ (fltR c s so k).1))]) ?_) (fun r h' hh => by rw [hh.1, hh.2]; exact hq)
  refine FnOk.nilT 76 3 (fn_of_ok Try.func25 bFlt ?_ ?_)
  · exact nFlt c so k
  refine run_sound hm 60 ((fltS c s so k _ _).mpr ⟨?_⟩)
  have bad : ∀ e : Int, fltR c s so k = ([], e) → (fun r h' => (r = SV.tup [.o 0, .v (.int .i64 (fltR c s so k).2)] ∧ HEs h' [.rowc 76 3 (fltR c s so k).1.length (.fn (cQ (fltR c s so k).1))]) ∨ (∃ y, r = .tup [.v (.slice none 0 0), .v y] ∧ h' = [] ∧ (SV.tup [.o 0, .v y] = SV.tup [.o 0, .v (.int .i64 (fltR c s so k).2)] ∧ HEs [HO.rowc 76 3 0 (.lit 1 [])] [.rowc 76 3 (fltR c s so k).1.length (.fn (cQ (fltR c s so k).1))]))) (SV.tup [SV.v (Value.slice none 0 0), SV.v (vi64 e)]) [] := fun e he => by
    rw [he]
    exact .inr ⟨_, rfl, rfl, rfl, ⟨rfl, rfl, rfl, fun k hk => by omega⟩, trivial⟩
  rw [cond_not, cond_beq]
  refine And.intro (fun _ => by omega) (ite_intro (fun h0 => ?_) (fun h0 => ?_))
  · refine lF_mk c hc s hs ?_
    rw [cond_not, cond_beq]
    refine ite_intro (fun h1 => ?_) (fun h1 => ?_)
    · obtain ⟨hk0, hk3, hk5, _⟩ := fitV_zero h1
      obtain ⟨hp, hcp⟩ := cps_in h1
      have hl := chkC_len hk0
      have hl2 := qsN_len c.nodes []
      rw [List.length_nil] at hl2
      refine ⟨c.nodes, rfl, IsC.refl _ _ _, by omega, ?_⟩
      have e : fltR c s so k = (fltV c s so k, 0) := by rw [fltR, if_neg (fun h => h h0), if_neg (fun h => h h1)]
      rw [e]
      exact FOk.loop ((usN k).toNat + 1) (by kernel_rfl) (FOk.cv (fa0_loop c hc s hs so k (qsN [] c.nodes) (fltV c s so k) (fltV_len hk0 hk5 hp) _ (.inl ⟨rfl, HEs.refl _⟩) hcp hp (by omega) (by omega) hk0 h0 hk5 rfl rfl (usN k).toNat 0 [] (by omega) rfl) ⟨⟨rfl, rfl, rfl, fun k hk => by simp at hk⟩, HE.refl _, HE.refl _, HE.refl _, HE.refl _, HE.refl _, HE.refl _, HE.refl _, HE.refl _, HE.refl _, HE.refl _, HE.refl _, HE.refl _, HE.refl _, HE.refl _, HE.refl _, HE.refl _, HE.refl _, HE.refl _, HE.refl _, HE.refl _, trivial⟩)
    · rw [cond_not, cond_beq, if_neg h1]
      exact bad _ (by rw [fltR, if_neg (fun h => h h0), if_pos h1])
  · rw [cond_not, cond_beq, if_neg h0]
    exact bad _ (by rw [fltR, if_pos h0])
noncomputable def gFlt : List SV → List HO → Option ((SV → List HO → Prop) → Prop)
  | [.v (.int .i64 so), .agg [.v (.int .i64 fx), .v (.int .i64 ad), .v (.int .i64 ins), .x 0 [], .x 1 [], .x 2 [], .x 3 []], .v (.int .i64 k), .agg [.x 4 [], .x 5 [], .x 6 [], .x 7 []]], [.ext false (.s false 7 n0 c0), .ext false (.s false 1 n1 c1), .ext false (.s false 2 n2 c2), .ext false (.s false 2 n3 c3), .ext false (.s false 1 m0 d0), .ext false (.s false 1 m1 d1), .ext false (.s false 1 m2 d2), .ext false (.s false 4 m3 d3)] =>
    some fun Q => lF fx ad ins n0 n1 n2 n3 m0 m1 m2 m3 c0 c1 c2 c3 d0 d1 d2 d3 fun c s => Q (.tup [.o 0, .v (.int .i64 (fltR c s so k).2)]) [.rowc 76 3 (fltR c s so k).1.length (.fn (cQ (fltR c s so k).1))]
  | _, _ => none
theorem gFlt_ok (args : List SV) (h : List HO) (tr : (SV → List HO → Prop) → Prop) (Q : SV → List HO → Prop) (hc : gFlt args h = some tr) (ht : tr Q) : FnOk Try.prog 25 args h Q := by
  unfold gFlt at hc
  split at hc
  · simp only [Option.some.injEq] at hc
    subst hc
    obtain ⟨c, rfl, rfl, rfl, ⟨rfl, e0⟩, ⟨rfl, e1⟩, ⟨rfl, e2⟩, ⟨rfl, e3⟩, hk, ht2⟩ := ht.h.h
    obtain ⟨s, ⟨rfl, e4⟩, ⟨rfl, e5⟩, ⟨rfl, e6⟩, ⟨rfl, e7⟩, hs, hq⟩ := ht2.h
    exact FnOk.ac (flt_ok c hk s hs _ _ Q hq) ⟨⟨rfl, rfl, rfl, rfl, e0⟩, ⟨rfl, rfl, rfl, rfl, e1⟩, ⟨rfl, rfl, rfl, rfl, e2⟩, ⟨rfl, rfl, rfl, rfl, e3⟩, ⟨rfl, rfl, rfl, rfl, e4⟩, ⟨rfl, rfl, rfl, rfl, e5⟩, ⟨rfl, rfl, rfl, rfl, e6⟩, ⟨rfl, rfl, rfl, rfl, e7⟩, trivial⟩
  · cases hc
noncomputable def K80 : Con Try.prog := K79.add 25 gFlt gFlt_ok
end Go.Proofs.Ytlmjdcbhpffanaa
/- An argument that is a nil slice, told as an empty frozen memory. -/
namespace Go.Sx
open Go.RowKit
theorem FnOk.nilX {P : Program} {f : FuncId} {args args' : List SV} {h : List HO} {Q : SV → List HO → Prop} (sz : Nat) (c : Nat → Nat → Cell) (hw : wsL (h.length + 1) args')
    (hd : ∀ e e0 : Env, e.val h.length [] = .slice none 0 0 → agree h.length e0 e → denL e args' = denL e0 args)
    (k : FnOk P f args' (h ++ [.ext false (.s false sz 0 c)]) Q) : FnOk P f args h Q := by
  intro F hF w0 e hm S hws
  have S2 := S.newExt hF false (.s false sz 0 c) (fun _ => .slice none 0 0) (fun _ => rfl) ⟨none, ⟨0, rfl, Nat.le_refl _⟩, .inl rfl⟩
  have hk := k F hF w0 _ hm S2 (by rw [List.length_append]; exact hw)
  have hv := hd (e.setV h.length (fun _ => .slice none 0 0) (fun _ => rfl)) e (by simp [Env.setV]) (agree_setV e h.length _ _)
  rw [← hv]
  exact hk
end Go.Sx
/- A row of one's own is given up; what refers to it in other objects is told anew. -/
namespace Go.Sx
open Go.RowKit
def frzO (i n : Nat) : HO → HO
  | .cells xs T => .cells (frzL i n xs) T
  | .row T sz k xs => .row T sz k (frzL i n xs)
  | x => x
theorem FOk.frzH {P : Program} {m : Nat} {fn : Func} {Q : SV → List HO → Prop} {k : List It} {tm : List (Nat × SV)} {h : List HO} (i : Nat) {T : TypeId} {sz n : Nat} {c : Ct} (hi : h[i]? = some (.rowc T sz n c))
    (hk : FOkM P m fn Q k ⟨frzT i h.length tm, (h.set i .gone ++ [HO.ext false (Cell.s false sz n c.at)]).map (frzO i h.length)⟩) : FOkM P m fn Q k ⟨tm, h⟩ := by
  intro F hF w0 hw0 e a w S T0
  have hlt := (List.getElem?_eq_some_iff.1 hi).1
  obtain ⟨S1, hle⟩ := S.drop hF i hlt
  obtain ⟨vals, h1, _, h2⟩ := S.sat i _ hi
  obtain ⟨f, f1, f2, f3⟩ := S.frozen hi rfl h1 hle h2
  have S2 := S1.newExt hF false (.s false sz n c.at) f f1 (by simpa using f3)
  rw [List.length_set] at S2
  have hag := agree_setV e h.length f f1
  have hv : (e.setV h.length f f1).val h.length [] = (e.setV h.length f f1).row i := by
    have : (e.setV h.length f f1).val h.length = f := by simp [Env.setV]
    rw [this, f2]; rfl
  have hl : (h.set i HO.gone ++ [HO.ext false (.s false sz n c.at)]).length = h.length + 1 := by simp
  have S3 := S2.conv hF (h' := (h.set i HO.gone ++ [HO.ext false (.s false sz n c.at)]).map (frzO i h.length)) (by rw [List.length_map]) (fun j x' hx' => by
    rw [List.getElem?_map] at hx'
    obtain ⟨x, hx, rfl⟩ := Option.map_eq_some_iff.1 hx'
    refine ⟨x, hx, ?_, ?_, ?_⟩
    · cases x <;> rfl
    · cases x with
      | cells xs T => intro hs; simp only [frzO, HO.sat, denL_frz i _ _ hv] at hs ⊢; exact hs
      | row T sz k xs => intro hs; simp only [frzO, HO.sat, denL_frz i _ _ hv] at hs ⊢; exact hs
      | _ => exact fun hs => hs
    · cases x with
      | cells xs T => exact fun hs => wsL_frz i h.length _ (by rw [hl]; exact Nat.lt_succ_self _) xs hs
      | row T sz k xs => exact fun hs => wsL_frz i h.length _ (by rw [hl]; exact Nat.lt_succ_self _) xs hs
      | _ => exact fun hs => hs)
  refine hk F hF w0 hw0 _ a w S3 ⟨T0.size, T0.defers, fun t s hs => ?_, fun t s hs => ?_⟩
  · obtain ⟨s0, q1, rfl⟩ := lk_frzT i _ tm hs
    rw [den_frz i _ _ hv, T0.get t s0 q1, den_agree hag s0 (T0.wsc t s0 q1)]
  · obtain ⟨s0, q1, rfl⟩ := lk_frzT i _ tm hs
    show ws ((h.set i HO.gone ++ [HO.ext false (.s false sz n c.at)]).map (frzO i h.length)).length _
    rw [List.length_map, hl]
    exact ws_frz i _ _ (Nat.lt_succ_self _) s0 (ws_mono (Nat.le_succ _) s0 (T0.wsc t s0 q1))
theorem FOk.nilA {P : Program} {m : Nat} {fn : Func} {Q : SV → List HO → Prop} {k : List It} {tm : List (Nat × SV)} {h : List HO} (t j sz : Nat) (c : Nat → Nat → Cell) {cs : List SV} (ht : lk tm t = some (.agg cs)) (hj : cs[j]? = some (.v (.slice none 0 0)))
    (hk : FOkM P m fn Q k ⟨(t, .agg (cs.set j (.x h.length []))) :: del tm t, h ++ [HO.ext false (Cell.s false sz 0 c)]⟩) : FOkM P m fn Q k ⟨tm, h⟩ := by
  intro F hF w0 hw0 e a w S T0
  have S2 := S.newExt hF false (.s false sz 0 c) (fun _ => .slice none 0 0) (fun _ => rfl) ⟨none, ⟨0, rfl, Nat.le_refl _⟩, .inl rfl⟩
  have hag := agree_setV e h.length (fun _ => .slice none 0 0) (fun _ => rfl)
  have hl : (h ++ [HO.ext false (Cell.s false sz 0 c)]).length = h.length + 1 := by simp
  have hws : wsL h.length cs := T0.wsc t _ ht
  have hden : ∀ (l : List SV) (j : Nat), l[j]? = some (.v (.slice none 0 0)) → wsL h.length l → denL (e.setV h.length (fun _ => .slice none 0 0) (fun _ => rfl)) (l.set j (.x h.length [])) = denL e l := by
    intro l
    induction l with
    | nil => intro j hj _; cases hj
    | cons x r ih =>
      intro j hj hw
      cases j with
      | zero =>
        simp only [List.getElem?_cons_zero, Option.some.injEq] at hj
        subst hj
        simp only [List.set_cons_zero, denL, den]
        rw [denL_agree hag r hw.2]
        simp [Env.setV]
      | succ j =>
        simp only [List.set_cons_succ, denL]
        rw [ih j hj hw.2, den_agree hag x hw.1]
  have hwset : ∀ (l : List SV) (j : Nat), wsL h.length l → wsL (h.length + 1) (l.set j (.x h.length [])) := by
    intro l
    induction l with
    | nil => intro j _; exact trivial
    | cons x r ih =>
      intro j hw
      cases j with
      | zero => exact ⟨Nat.lt_succ_self _, wsL_mono (Nat.le_succ _) r hw.2⟩
      | succ j => exact ⟨ws_mono (Nat.le_succ _) x hw.1, ih j hw.2⟩
  refine hk F hF w0 hw0 _ a w S2 ⟨T0.size, T0.defers, fun t2 s hs => ?_, fun t2 s hs => ?_⟩
  · simp only [lk] at hs
    cases hb : Nat.beq t t2 with
    | true =>
      rw [hb] at hs
      simp only [cond_true, Option.some.injEq] at hs
      subst hs
      rw [← Nat.eq_of_beq_eq_true hb]
      refine (T0.get t _ ht).trans (congrArg some ?_)
      have e1 : den (e.setV h.length (fun _ => .slice none 0 0) (fun _ => rfl)) (.agg (cs.set j (.x h.length []))) = .agg (denL (e.setV h.length (fun _ => .slice none 0 0) (fun _ => rfl)) (cs.set j (.x h.length []))).toArray := by rw [den]
      rw [hden cs j hj hws] at e1
      rw [den]
      exact e1.symm
    | false =>
      rw [hb] at hs
      rw [cond_false, lk_del_ne tm t t2 (fun h => by rw [h, Nat.beq_refl] at hb; cases hb)] at hs
      exact (T0.get t2 s hs).trans (congrArg some (den_agree hag s (T0.wsc t2 s hs)).symm)
  · rw [hl]
    simp only [lk] at hs
    cases hb : Nat.beq t t2 with
    | true =>
      rw [hb] at hs
      simp only [cond_true, Option.some.injEq] at hs
      subst hs
      exact hwset cs j hws
    | false =>
      rw [hb] at hs
      rw [cond_false, lk_del_ne tm t t2 (fun h => by rw [h, Nat.beq_refl] at hb; cases hb)] at hs
      exact ws_mono (Nat.le_succ _) s (T0.wsc t2 s hs)
end Go.Sx
/- Faults compared; great circuits. -/
namespace Go.Pl
open Go.Sx
def great13 (c : Cir) (s : Sht) : Bool := decide (200 < c.nodes.length ∨ 100 < c.gates.length ∨ 20 < c.looks.length ∨ 100 < c.eqs.length ∨ 100 < s.fx.length + s.ad.length + s.is.length ∨ 1000 < s.cp.length)
end Go.Pl
namespace Go.Proofs.Ytlmjdcbhpffanaa
open Go.Sx Go.Pl
set_option linter.unusedVariables false
set_option maxRecDepth 100000
theorem sfR (b b2 : Bool) (l l2 : List (Int × Int × Int)) (n n2 k M : Nat) (K : List It → St → Prop) (R : SV → List HO → Prop) : W (xwp Try.prog X K80 [] 60 (fxOf Try.f26 [] [⟨[0,1,0,1,1], [5,4,0,1], []⟩]) [] (.at [0,0,1,0,1,1] :: .rnd [0,0,1,0,1,1] M :: [.blk 0, .at [1,1,1]]) ⟨[(5, .v (.int .i64 (k : Int))), (4, .v (.bool false)), (0, .x 0 []), (1, .x 1 [])], [.ext b (.s false 3 n (cQ l)), .ext b2 (.s false 3 n2 (cQ l2))]⟩ K R) = W (bif decide ((↑k : Int) < (↑n : Int)) then (∀ M : Mem, (0 : Int) ≤ (↑k : Int) ∧ (↑k : Int) < (↑n : Int)) ∧ (∀ M : Mem, k < n) ∧ (∀ M : Mem, (0 : Int) ≤ (↑k : Int) ∧ (↑k : Int) < (↑n2 : Int)) ∧ (∀ M : Mem, k < n2) ∧ bif !decide ([(gQ l k).1, (gQ l k).2.1, (gQ l k).2.2] = [(gQ l2 k).1, (gQ l2 k).2.1, (gQ l2 k).2.2]) then R (.v (.bool false)) [] else K [.rnd [0,0,1,0,1,1] M, .blk 0, .at [1,1,1]] (St.mk [(5, .v (vi64 (IntKind.wrap .i64 ((↑k : Int) + (1 : Int))))), (4, .v (.bool false)), (0, .x 0 []), (1, .x 1 [])] [.ext b (.s false 3 n (cQ l)), .ext b2 (.s false 3 n2 (cQ l2))]) else R (.v (.bool true)) []) := by kernel_rfl
theorem sfS (b b2 : Bool) (l l2 : List (Int × Int × Int)) (n n2 : Nat) (K : List It → St → Prop) (R : SV → List HO → Prop) : W (xwp Try.prog X K80 [] 60 (fxOf Try.f26 [] [⟨[0,1,0,1,1], [5,4,0,1], []⟩]) [] [.at []] ⟨argsS 0 [.x 0 [], .x 1 []], [.ext b (.s false 3 n (cQ l)), .ext b2 (.s false 3 n2 (cQ l2))]⟩ K R) = W (bif !(↑n : Int) == (↑n2 : Int) then R (.v (.bool false)) [] else K [.at [0,1,0,1,1], .blk 0, .at [1,1,1]] (St.mk [(5, .v (vi64 0)), (4, .v (.bool false)), (0, .x 0 []), (1, .x 1 [])] [.ext b (.s false 3 n (cQ l)), .ext b2 (.s false 3 n2 (cQ l2))])) := by kernel_rfl
theorem gr13S (c : Cir) (s : Sht) (K : List It → St → Prop) (R : SV → List HO → Prop) : W (xwp Try.prog X K80 [] 60 (fxOf Try.f24 [] []) [] [.at []] ⟨argsS 0 [.agg [.v (.int .i64 c.fx), .v (.int .i64 c.ad), .v (.int .i64 c.ins), .x 0 [], .x 1 [], .x 2 [], .x 3 []], .agg [.x 4 [], .x 5 [], .x 6 [], .x 7 []]], [.ext false (.s false 7 c.nodes.length (cN c.nodes)), .ext false (.s false 1 c.gates.length (cI c.gates)), .ext false (.s false 2 c.looks.length (cL c.looks)), .ext false (.s false 2 c.eqs.length (cK c.eqs)), .ext false (.s false 1 s.fx.length (cT s.fx)), .ext false (.s false 1 s.ad.length (cT s.ad)), .ext false (.s false 1 s.is.length (cT s.is)), .ext false (.s false 4 s.cp.length (cP s.cp))]⟩ K R) = W (bif decide ((200 : Int) < (↑c.4.length : Int)) then R (.v (.bool true)) [] else bif decide ((100 : Int) < (↑c.5.length : Int)) then R (.v (.bool true)) [] else bif decide ((20 : Int) < (↑c.6.length : Int)) then R (.v (.bool true)) [] else bif decide ((100 : Int) < (↑c.7.length : Int)) then R (.v (.bool true)) [] else bif decide ((100 : Int) < IntKind.wrap .i64 (IntKind.wrap .i64 ((↑s.1.length : Int) + (↑s.2.length : Int)) + (↑s.3.length : Int))) then R (.v (.bool true)) [] else R (.v (.bool (decide ((1000 : Int) < (↑s.4.length : Int))))) []) := by kernel_rfl
theorem sf_loop (b b2 : Bool) (l l2 : List (Int × Int × Int)) (hl : l.length = l2.length) (hb : l.length ≤ 4398046511104) (Q : SV → List HO → Prop) (hq1 : (∀ k, k < l.length → [(gQ l k).1, (gQ l k).2.1, (gQ l k).2.2] = [(gQ l2 k).1, (gQ l2 k).2.1, (gQ l2 k).2.2]) → Q (.v (.bool true)) []) (hq0 : (∃ k, k < l.length ∧ ¬ ([(gQ l k).1, (gQ l k).2.1, (gQ l k).2.2] = [(gQ l2 k).1, (gQ l2 k).2.1, (gQ l2 k).2.2])) → Q (.v (.bool false)) []) :
    ∀ (d k : Nat), k + d = l.length → (∀ k', k' < k → [(gQ l k').1, (gQ l k').2.1, (gQ l k').2.2] = [(gQ l2 k').1, (gQ l2 k').2.1, (gQ l2 k').2.2]) →
    FOk Try.prog Try.f26 Q (.rnd [0,0,1,0,1,1] (d + 1) :: [.blk 0, .at [1,1,1]]) ⟨[(5, .v (.int .i64 (k : Int))), (4, .v (.bool false)), (0, .x 0 []), (1, .x 1 [])], [.ext b (.s false 3 l.length (cQ l)), .ext b2 (.s false 3 l2.length (cQ l2))]⟩
  | 0, k, hd, he => by
    refine FOk.rnd (run_sound hm 60 ((sfR b b2 l l2 l.length l2.length k 0 _ _).mpr ⟨?_⟩))
    simp only [cond_dec]
    rw [if_neg (by omega)]
    exact hq1 fun k' hk' => he k' (by omega)
  | d + 1, k, hd, he => by
    refine FOk.rnd (run_sound hm 60 ((sfR b b2 l l2 l.length l2.length k (d + 1) _ _).mpr ⟨?_⟩))
    simp only [cond_dec, cond_not, forall_const]
    rw [if_pos (by omega)]
    repeat' (first | refine And.intro (by omega) ?_ | refine ite_intro (fun h => ?_) (fun h => ?_))
    · rw [wrap_inc _ (by omega)]
      refine sf_loop b b2 l l2 hl hb Q hq1 hq0 d (k + 1) (by omega) fun k' hk' => ?_
      by_cases hh : k' = k
      · rw [hh]; exact h
      · exact he k' (by omega)
    · exact hq0 ⟨k, by omega, h⟩
theorem bsf : Try.f26.body.isSome = true := by kernel_rfl
theorem nsf : Nat.ble [SV.x 0 [], .x 1 []].length Try.f26.ntmps = true := by kernel_rfl
theorem sf_ok (b b2 : Bool) (l l2 : List (Int × Int × Int)) (hb : l.length ≤ 4398046511104) (Q : SV → List HO → Prop) (hq1 : l.length = l2.length → (∀ k, k < l.length → [(gQ l k).1, (gQ l k).2.1, (gQ l k).2.2] = [(gQ l2 k).1, (gQ l2 k).2.1, (gQ l2 k).2.2]) → Q (.v (.bool true)) []) (hq0 : (l.length ≠ l2.length ∨ ∃ k, k < l.length ∧ ¬ ([(gQ l k).1, (gQ l k).2.1, (gQ l k).2.2] = [(gQ l2 k).1, (gQ l2 k).2.1, (gQ l2 k).2.2])) → Q (.v (.bool false)) []) : FnOk Try.prog 26 [.x 0 [], .x 1 []] [.ext b (.s false 3 l.length (cQ l)), .ext b2 (.s false 3 l2.length (cQ l2))] Q := by
  refine fn_of_ok Try.func26 bsf ?_ ?_
  · exact nsf
  refine run_sound hm 60 ((sfS b b2 l l2 l.length l2.length _ _).mpr ⟨?_⟩)
  simp only [cond_not, cond_beq]
  refine ite_intro (fun h => ?_) (fun h => hq0 (.inl (by omega)))
  have h' : l.length = l2.length := by omega
  exact FOk.loop (l.length + 1) (by kernel_rfl) (sf_loop b b2 l l2 h' hb Q (hq1 h') (fun hh => hq0 (.inr hh)) l.length 0 (by omega) fun k' hk' => by omega)
noncomputable def g_sf : List SV → List HO → Option ((SV → List HO → Prop) → Prop)
  | [.x 0 [], .x 1 []], [.ext _ (.s false 3 n c), .ext _ (.s false 3 n2 c2)] => some fun Q => lQ2 n n2 c c2 fun l l2 => Q (.v (.bool (decide (l = l2)))) []
  | _, _ => none
theorem g_sf_ok (args : List SV) (h : List HO) (tr : (SV → List HO → Prop) → Prop) (Q : SV → List HO → Prop) (hc : g_sf args h = some tr) (ht : tr Q) : FnOk Try.prog 26 args h Q := by
  unfold g_sf at hc
  split at hc
  · rename_i b n c b2 n2 c2
    simp only [Option.some.injEq] at hc
    subst hc
    obtain ⟨l, l2, rfl, he, rfl, he2, hb, hq⟩ := ht.h
    refine FnOk.ac (sf_ok b b2 l l2 hb Q (fun h1 h2 => ?_) (fun h1 => ?_)) ⟨⟨rfl, rfl, rfl, rfl, he⟩, ⟨rfl, rfl, rfl, rfl, he2⟩, trivial⟩
    · rw [decide_eq_true (ext_gQ h1 fun k hk => q_eq (h2 k hk))] at hq; exact hq
    · rw [decide_eq_false (fun hh => by subst hh; exact h1.elim (fun h => h rfl) (fun ⟨_, _, h⟩ => h rfl))] at hq; exact hq
  · cases hc
theorem bGr13 : Try.f24.body.isSome = true := by kernel_rfl
theorem nGr13 (c : Cir) : Nat.ble [(.agg [.v (.int .i64 c.fx), .v (.int .i64 c.ad), .v (.int .i64 c.ins), .x 0 [], .x 1 [], .x 2 [], .x 3 []] : SV), .agg [.x 4 [], .x 5 [], .x 6 [], .x 7 []]].length Try.f24.ntmps = true := by kernel_rfl
theorem gr13_ok (c : Cir) (hc : c.ok) (s : Sht) (hs : s.ok) (Q : SV → List HO → Prop) (hq : Q (.v (.bool (great13 c s))) []) : FnOk Try.prog 24 [.agg [.v (.int .i64 c.fx), .v (.int .i64 c.ad), .v (.int .i64 c.ins), .x 0 [], .x 1 [], .x 2 [], .x 3 []], .agg [.x 4 [], .x 5 [], .x 6 [], .x 7 []]] [.ext false (.s false 7 c.nodes.length (cN c.nodes)), .ext false (.s false 1 c.gates.length (cI c.gates)), .ext false (.s false 2 c.looks.length (cL c.looks)), .ext false (.s false 2 c.eqs.length (cK c.eqs)), .ext false (.s false 1 s.fx.length (cT s.fx)), .ext false (.s false 1 s.ad.length (cT s.ad)), .ext false (.s false 1 s.is.length (cT s.is)), .ext false (.s false 4 s.cp.length (cP s.cp))] Q := by
  refine fn_of_ok Try.func24 bGr13 ?_ ?_
  · exact nGr13 c
  have h1 := hs.f.2
  have h2 := hs.a.2
  have h3 := hs.i.2
  refine run_sound hm 60 ((gr13S c s _ _).mpr ⟨?_⟩)
  rw [wrap_in ((s.1.length : Int) + (s.2.length : Int)) (by omega), wrap_in _ (by omega)]
  simp only [cond_dec]
  refine ite_intro (fun h => ?_) (fun h => ite_intro (fun h2 => ?_) (fun h2 => ite_intro (fun h3 => ?_) (fun h3 => ite_intro (fun h4 => ?_) (fun h4 => ite_intro (fun h5 => ?_) (fun h5 => ?_)))))
  all_goals first
    | (rw [show great13 c s = true from decide_eq_true (by omega)] at hq; exact hq)
    | (rw [show decide ((1000 : Int) < (s.cp.length : Int)) = great13 c s from decide_eq_decide.2 (by omega)]; exact hq)
noncomputable def gGr13 : List SV → List HO → Option ((SV → List HO → Prop) → Prop)
  | [.agg [.v (.int .i64 fx), .v (.int .i64 ad), .v (.int .i64 ins), .x 0 [], .x 1 [], .x 2 [], .x 3 []], .agg [.x 4 [], .x 5 [], .x 6 [], .x 7 []]], [.ext false (.s false 7 n0 c0), .ext false (.s false 1 n1 c1), .ext false (.s false 2 n2 c2), .ext false (.s false 2 n3 c3), .ext false (.s false 1 m0 d0), .ext false (.s false 1 m1 d1), .ext false (.s false 1 m2 d2), .ext false (.s false 4 m3 d3)] =>
    some fun Q => lF fx ad ins n0 n1 n2 n3 m0 m1 m2 m3 c0 c1 c2 c3 d0 d1 d2 d3 fun c s => Q (.v (.bool (great13 c s))) []
  | _, _ => none
theorem gGr13_ok (args : List SV) (h : List HO) (tr : (SV → List HO → Prop) → Prop) (Q : SV → List HO → Prop) (hc : gGr13 args h = some tr) (ht : tr Q) : FnOk Try.prog 24 args h Q := by
  unfold gGr13 at hc
  split at hc
  · simp only [Option.some.injEq] at hc
    subst hc
    obtain ⟨c, rfl, rfl, rfl, ⟨rfl, e0⟩, ⟨rfl, e1⟩, ⟨rfl, e2⟩, ⟨rfl, e3⟩, hk, ht2⟩ := ht.h.h
    obtain ⟨s, ⟨rfl, e4⟩, ⟨rfl, e5⟩, ⟨rfl, e6⟩, ⟨rfl, e7⟩, hs, hq⟩ := ht2.h
    exact FnOk.ac (gr13_ok c hk s hs Q hq) ⟨⟨rfl, rfl, rfl, rfl, e0⟩, ⟨rfl, rfl, rfl, rfl, e1⟩, ⟨rfl, rfl, rfl, rfl, e2⟩, ⟨rfl, rfl, rfl, rfl, e3⟩, ⟨rfl, rfl, rfl, rfl, e4⟩, ⟨rfl, rfl, rfl, rfl, e5⟩, ⟨rfl, rfl, rfl, rfl, e6⟩, ⟨rfl, rfl, rfl, rfl, e7⟩, trivial⟩
  · cases hc
noncomputable def K82 : Con Try.prog := (K80.add 26 g_sf g_sf_ok).add 24 gGr13 gGr13_ok
end Go.Proofs.Ytlmjdcbhpffanaa
/- The statements' first line: plain. -/
namespace Go.Pl
open Go.Sx
def alD : Cir := ⟨0, 1, 0, [⟨3, 0, 0, 0⟩, ⟨3, 0, 1, 0⟩, ⟨5, 1, 0, 0⟩, ⟨6, 0, 2, 0⟩], [3], [], []⟩
def alSh : Sht := ⟨[], [[1, 1, 2]], [], []⟩
theorem alD_ok : alD.ok where
  f := by unfold i64; simp only [alD]; omega
  a := by unfold i64; simp only [alD]; omega
  i := by unfold i64; simp only [alD]; omega
  n := by
    refine ⟨?_, by decide⟩
    intro x hx
    simp only [alD, List.mem_cons, List.not_mem_nil, or_false] at hx
    rcases hx with rfl | rfl | rfl | rfl <;> simp only [top, i64] <;> omega
  g := by
    refine ⟨?_, by decide⟩
    intro x hx
    simp only [alD, List.mem_singleton] at hx
    subst hx
    unfold i64; omega
  l := by refine ⟨?_, by decide⟩; intro x hx; cases hx
  e := by refine ⟨?_, by decide⟩; intro x hx; cases hx
theorem alSh_ok : alSh.ok where
  f := ⟨fun x hx => (by cases hx), by decide⟩
  a := by
    refine ⟨?_, by decide⟩
    intro x hx
    simp only [alSh, List.mem_singleton] at hx
    subst hx
    refine ⟨?_, by decide⟩
    intro v hv
    simp only [List.mem_cons, List.not_mem_nil, or_false] at hv
    rcases hv with rfl | rfl | rfl <;> simp only [top] <;> omega
  i := ⟨fun x hx => (by cases hx), by decide⟩
  c := ⟨fun x hx => (by cases hx), by decide⟩
theorem alD_n : IsC 4 7 (lc 7 [Cell.v (vi64 (3 : Int)), Cell.v (vi64 (0 : Int)), Cell.v (vi64 (0 : Int)), Cell.v (vu64 (0 : Int)), Cell.v (vu64 (0 : Int)), Cell.v (vu64 (0 : Int)), Cell.v (vu64 (0 : Int)), Cell.v (vi64 (3 : Int)), Cell.v (vi64 (0 : Int)), Cell.v (vi64 (1 : Int)), Cell.v (vu64 (0 : Int)), Cell.v (vu64 (0 : Int)), Cell.v (vu64 (0 : Int)), Cell.v (vu64 (0 : Int)), Cell.v (vi64 (5 : Int)), Cell.v (vi64 (1 : Int)), Cell.v (vi64 (0 : Int)), Cell.v (vu64 (0 : Int)), Cell.v (vu64 (0 : Int)), Cell.v (vu64 (0 : Int)), Cell.v (vu64 (0 : Int)), Cell.v (vi64 (6 : Int)), Cell.v (vi64 (0 : Int)), Cell.v (vi64 (2 : Int)), Cell.v (vu64 (0 : Int)), Cell.v (vu64 (0 : Int)), Cell.v (vu64 (0 : Int)), Cell.v (vu64 (0 : Int))]) (cN alD.nodes) := by
  intro k hk j hj
  have hk' : k = 0 ∨ k = 1 ∨ k = 2 ∨ k = 3 := by omega
  have hj' : j = 0 ∨ j = 1 ∨ j = 2 ∨ j = 3 ∨ j = 4 ∨ j = 5 ∨ j = 6 := by omega
  rcases hk' with rfl | rfl | rfl | rfl <;> rcases hj' with rfl | rfl | rfl | rfl | rfl | rfl | rfl <;> simp [lc, cN, gN, alD, ndCell, limb_zero]
theorem alD_g : IsC 1 1 (lc 1 [Cell.v (vi64 (3 : Int))]) (cI alD.gates) := by
  intro k hk j hj
  have hk' : k = 0 := by omega
  have hj' : j = 0 := by omega
  subst hk' hj'
  rfl
theorem alSh_e : IsC 3 4 (lc 4 [Cell.v (vu64 (1 : Int)), Cell.v (vu64 (0 : Int)), Cell.v (vu64 (0 : Int)), Cell.v (vu64 (0 : Int)), Cell.v (vu64 (1 : Int)), Cell.v (vu64 (0 : Int)), Cell.v (vu64 (0 : Int)), Cell.v (vu64 (0 : Int)), Cell.v (vu64 (2 : Int)), Cell.v (vu64 (0 : Int)), Cell.v (vu64 (0 : Int)), Cell.v (vu64 (0 : Int))]) (cE [1, 1, 2]) := by
  obtain ⟨a0, a1, a2, a3⟩ := limb_lit 1 (by omega)
  obtain ⟨b0, b1, b2, b3⟩ := limb_lit 2 (by omega)
  intro k hk j hj
  have hk' : k = 0 ∨ k = 1 ∨ k = 2 := by omega
  have hj' : j = 0 ∨ j = 1 ∨ j = 2 ∨ j = 3 := by omega
  rcases hk' with rfl | rfl | rfl <;> rcases hj' with rfl | rfl | rfl | rfl <;> simp [lc, cE, gE, a0, a1, a2, a3, b0, b1, b2, b3]
theorem alSh_a : IsC 1 1 (lc 1 [Cell.s false 4 3 (cE [1, 1, 2])]) (cT alSh.ad) := by
  intro k hk j hj
  have hk' : k = 0 := by omega
  have hj' : j = 0 := by omega
  subst hk' hj'
  rfl
theorem al_fl : IsC 2 3 (lc 3 [Cell.v (vi64 (1 : Int)), Cell.v (vi64 (0 : Int)), Cell.v (vi64 (1 : Int)), Cell.v (vi64 (1 : Int)), Cell.v (vi64 (0 : Int)), Cell.v (vi64 (2 : Int))]) (cQ [(1, 0, 1), (1, 0, 2)]) := by
  intro k hk j hj
  have hk' : k = 0 ∨ k = 1 := by omega
  have hj' : j = 0 ∨ j = 1 ∨ j = 2 := by omega
  rcases hk' with rfl | rfl <;> rcases hj' with rfl | rfl | rfl <;> rfl
theorem fNg_0 (b : Nat) : fNg 0 b = (16513537 - b % 16513537) % 16513537 := by
  rw [fNg, if_neg (by rw [fP_0]; omega), fN_eq, fP_0]
theorem fAdd_0 (a b : Nat) : fAd 0 a b = (a + b) % 16513537 := by
  rw [fAd, if_neg (by rw [fP_0]; omega), fA_eq, fP_0]
theorem alD_v (a b : Nat) (ha : a < 16513537) (hb : b < 16513537) : vlR 0 [(3, 0, 0), (3, 0, 1)] [a, b] alD.nodes = ([a, b, fNg 0 b, fAd 0 a (fNg 0 b)], 0) := by
  have ho : ordN 0 alD.nodes = true := by decide
  have hn : fNg 0 b < 16513537 := by rw [fNg_0]; omega
  have hz : fAd 0 a (fNg 0 b) < 16513537 := by rw [fAdd_0]; omega
  rw [vlR, if_neg (by rw [fP_0]; omega), if_neg (by rw [ho]; simp), if_neg (by simp)]
  have h1 : valD 0 [(3, 0, 0), (3, 0, 1)] [a, b] [] ⟨3, 0, 0, 0⟩ = some a := by
    rw [valD_q _ _ _ _ (by simp)]; rfl
  have h2 : valD 0 [(3, 0, 0), (3, 0, 1)] [a, b] [a] ⟨3, 0, 1, 0⟩ = some b := by
    rw [valD_q _ _ _ _ (by simp)]; rfl
  have h3 : valD 0 [(3, 0, 0), (3, 0, 1)] [a, b] [a, b] ⟨5, 1, 0, 0⟩ = some (fNg 0 b) := valD_n _ _ _ _ rfl
  have h4 : valD 0 [(3, 0, 0), (3, 0, 1)] [a, b] [a, b, fNg 0 b] ⟨6, 0, 2, 0⟩ = some (fAd 0 a (fNg 0 b)) := valD_a _ _ _ _ rfl
  have e : valsN 0 [(3, 0, 0), (3, 0, 1)] [a, b] [] alD.nodes = some [a, b, fNg 0 b, fAd 0 a (fNg 0 b)] := by
    rw [alD, valsN_some h1, fAd_0 a ha, List.nil_append, valsN_some h2, fAd_0 b hb]
    rw [show [a] ++ [b] = [a, b] from rfl, valsN_some h3, fAd_0 _ hn, show [a, b] ++ [fNg 0 b] = [a, b, fNg 0 b] from rfl, valsN_some h4, fAd_0 _ hz, valsN]
    rfl
  rw [e]
theorem alD_q : qsN [] alD.nodes = [(3, 0, 0), (3, 0, 1)] := by decide +kernel
theorem alD_row (r : Int) (a b : Nat) (ha : a < 16513537) (hb : b < 16513537) (h : atQ alSh 3 r [(3, 0, 0), (3, 0, 1)] = [a, b]) : gE (rowV alD alSh 0 3 (qsN [] alD.nodes) r) 3 = (a + (16513537 - b % 16513537) % 16513537) % 16513537 := by
  rw [rowV, alD_q, h, alD_v a b ha hb]
  show fAd 0 a (fNg 0 b) = _
  rw [fAdd_0, fNg_0]
theorem eI_no {v : Nat} (h : v < top) (h2 : v ≠ 0) : decide (eI v = [(0 : Int), (0 : Int), (0 : Int), (0 : Int)]) = false :=
  decide_eq_false fun hh => h2 (eI_inj h (by simp only [top]; omega) (hh.trans eI_zero.symm))
theorem dz {x v : Nat} {b : Bool} (e : x = v) (h : decide (eI v = [(0 : Int), (0 : Int), (0 : Int), (0 : Int)]) = b) : decide (eI x = [(0 : Int), (0 : Int), (0 : Int), (0 : Int)]) = b := by
  subst e; exact h
theorem al_flt : fltR alD alSh 0 3 = ([(1, 0, 1), (1, 0, 2)], 0) := by
  have h1 : fE 0 = 0 := (fE_zero 0).2 (by rw [fP_0]; omega)
  have h2 : fitV alD 3 alSh = 0 := by decide +kernel
  have h3 : rowsV alD 3 3 = (0, 3) := by decide +kernel
  have h4 : (usN 3).toNat = 4 := by decide +kernel
  have r0 := alD_row 0 1 1 (by omega) (by omega) (by decide +kernel)
  have r1 := alD_row 1 1 2 (by omega) (by omega) (by decide +kernel)
  have r2 := alD_row 2 2 0 (by omega) (by omega) (by decide +kernel)
  have er : rowsA alD alSh 0 3 4 = [rowV alD alSh 0 3 (qsN [] alD.nodes) 0, rowV alD alSh 0 3 (qsN [] alD.nodes) 1, rowV alD alSh 0 3 (qsN [] alD.nodes) 2, rowV alD alSh 0 3 (qsN [] alD.nodes) 3] := rfl
  have t0 : (2 : Nat) < top := by simp only [top]; omega
  rw [fltR, if_neg (fun h => h h1), if_neg (fun h => h h2), fltV, h4, er]
  show ((gatesF alD 3 _ 0 [3] ++ ([] ++ [])), (0 : Int)) = _
  rw [gatesF, h3, gatesF, show ((0 : Int), (3 : Int)).2 - ((0 : Int), (3 : Int)).1 = 3 from rfl, show (3 : Int).toNat = 3 from rfl, gateR, gateR, gateR, gateR]
  have e0 : decide (eI (gE (gT [rowV alD alSh 0 3 (qsN [] alD.nodes) 0, rowV alD alSh 0 3 (qsN [] alD.nodes) 1, rowV alD alSh 0 3 (qsN [] alD.nodes) 2, rowV alD alSh 0 3 (qsN [] alD.nodes) 3] (Int.toNat 0)) (Int.toNat 3)) = [(0 : Int), (0 : Int), (0 : Int), (0 : Int)]) = true := by
    exact dz r0 (decide_eq_true eI_zero)
  have e1 : decide (eI (gE (gT [rowV alD alSh 0 3 (qsN [] alD.nodes) 0, rowV alD alSh 0 3 (qsN [] alD.nodes) 1, rowV alD alSh 0 3 (qsN [] alD.nodes) 2, rowV alD alSh 0 3 (qsN [] alD.nodes) 3] (Int.toNat (0 + 1))) (Int.toNat 3)) = [(0 : Int), (0 : Int), (0 : Int), (0 : Int)]) = false := by
    exact dz r1 (eI_no (by simp only [top]; omega) (by omega))
  have e2 : decide (eI (gE (gT [rowV alD alSh 0 3 (qsN [] alD.nodes) 0, rowV alD alSh 0 3 (qsN [] alD.nodes) 1, rowV alD alSh 0 3 (qsN [] alD.nodes) 2, rowV alD alSh 0 3 (qsN [] alD.nodes) 3] (Int.toNat (0 + 1 + 1))) (Int.toNat 3)) = [(0 : Int), (0 : Int), (0 : Int), (0 : Int)]) = false := by
    exact dz r2 (eI_no (by simp only [top]; omega) (by omega))
  show ((bif decide (eI (gE (gT _ (Int.toNat 0)) (Int.toNat 3)) = _) then [] else _) ++ ((bif decide (eI (gE (gT _ (Int.toNat (0 + 1))) (Int.toNat 3)) = _) then [] else _) ++ ((bif decide (eI (gE (gT _ (Int.toNat (0 + 1 + 1))) (Int.toNat 3)) = _) then [] else _) ++ [])) ++ [] ++ ([] ++ []), (0 : Int)) = _
  rw [e0, e1, e2]
  rfl
end Go.Pl
namespace Go.Proofs.Ytlmjdcbhpffanaa
open Go.Sx Go.Pl
set_option linter.unusedVariables false
set_option maxRecDepth 100000
end Go.Proofs.Ytlmjdcbhpffanaa
/- The statements' first line. -/
namespace Go.Proofs.Ytlmjdcbhpffanaa
open Go.Sx Go.Pl
set_option linter.unusedVariables false
set_option maxRecDepth 100000
theorem al13S  (K : List It → St → Prop) (R : SV → List HO → Prop) : W (xwp Try.prog X K82 [] 60 (fxOf Try.f23 [] []) [] [.at []] ⟨argsS 0 [], []⟩ K R) = W ((∀ M : Mem, 7 ≤ 7) ∧ K [It.ops [0,1,1] 7, .at [1,1,1]] (St.mk [(18, .agg [.v (Value.slice none 0 0), .o 4, .v (Value.slice none 0 0), .v (Value.slice none 0 0)]), (17, .o 4), (16, .o 3), (15, .agg [.v (vu64 2), .v (vu64 0), .v (vu64 0), .v (vu64 0)]), (14, .agg [.v (vu64 1), .v (vu64 0), .v (vu64 0), .v (vu64 0)]), (13, .agg [.v (vu64 1), .v (vu64 0), .v (vu64 0), .v (vu64 0)]), (12, .agg [.v (vi64 0), .v (vi64 1), .v (vi64 0), .o 0, .o 1, .v (Value.slice none 0 0), .v (Value.slice none 0 0)]), (1, .p 2 0), (10, .agg [.v (vi64 0), .v (vi64 1), .v (vi64 0), .o 0, .o 1, .v (Value.slice none 0 0), .v (Value.slice none 0 0)]), (9, .o 1), (8, .o 0), (7, .agg [.v (vi64 6), .v (vi64 0), .v (vi64 2), .v (vu64 0), .v (vu64 0), .v (vu64 0), .v (vu64 0)]), (6, .agg [.v (vi64 5), .v (vi64 1), .v (vi64 0), .v (vu64 0), .v (vu64 0), .v (vu64 0), .v (vu64 0)]), (5, .agg [.v (vi64 3), .v (vi64 0), .v (vi64 1), .v (vu64 0), .v (vu64 0), .v (vu64 0), .v (vu64 0)]), (4, .agg [.v (vi64 3), .v (vi64 0), .v (vi64 0), .v (vu64 0), .v (vu64 0), .v (vu64 0), .v (vu64 0)]), (0, .v (.bool false))] [HO.row 113 7 4 [.v (vi64 3), .v (vi64 0), .v (vi64 0), .v (vu64 0), .v (vu64 0), .v (vu64 0), .v (vu64 0), .v (vi64 3), .v (vi64 0), .v (vi64 1), .v (vu64 0), .v (vu64 0), .v (vu64 0), .v (vu64 0), .v (vi64 5), .v (vi64 1), .v (vi64 0), .v (vu64 0), .v (vu64 0), .v (vu64 0), .v (vu64 0), .v (vi64 6), .v (vi64 0), .v (vi64 2), .v (vu64 0), .v (vu64 0), .v (vu64 0), .v (vu64 0)], HO.row 3 1 1 [.v (vi64 3)], .cells [.v (vi64 0), .v (vi64 1), .v (vi64 0), .o 0, .o 1, .v (Value.slice none 0 0), .v (Value.slice none 0 0)] 27, HO.row 56 4 3 [.v (vu64 1), .v (vu64 0), .v (vu64 0), .v (vu64 0), .v (vu64 1), .v (vu64 0), .v (vu64 0), .v (vu64 0), .v (vu64 2), .v (vu64 0), .v (vu64 0), .v (vu64 0)], HO.row 44 1 1 [.o 3]])) := by kernel_rfl
theorem al13R  (K : List It → St → Prop) (R : SV → List HO → Prop) : W (xwp Try.prog X K82 [] 60 (fxOf Try.f23 [] []) [] (.ops [0,1,1] 7 :: [.at [1,1,1]]) (St.mk [(18, .agg [.x 0 [], .x 1 [], .x 2 [], .x 3 []]), (12, .agg [.v (vi64 0), .v (vi64 1), .v (vi64 0), .x 4 [], .x 5 [], .x 6 [], .x 7 []]), (0, .v (.bool false))] [.ext false (.s false 1 0 (cT [])), .ext false (.s false 1 1 (lc 1 [.s false 4 3 (cE [1,1,2])])), .ext false (.s false 1 0 (cT [])), .ext false (.s false 4 0 (cP [])), .ext false (.s false 7 4 (lc 7 [.v (vi64 3), .v (vi64 0), .v (vi64 0), .v (vu64 0), .v (vu64 0), .v (vu64 0), .v (vu64 0), .v (vi64 3), .v (vi64 0), .v (vi64 1), .v (vu64 0), .v (vu64 0), .v (vu64 0), .v (vu64 0), .v (vi64 5), .v (vi64 1), .v (vi64 0), .v (vu64 0), .v (vu64 0), .v (vu64 0), .v (vu64 0), .v (vi64 6), .v (vi64 0), .v (vi64 2), .v (vu64 0), .v (vu64 0), .v (vu64 0), .v (vu64 0)])), .ext false (.s false 1 1 (lc 1 [.v (vi64 3)])), .ext false (.s false 2 0 (cL [])), .ext false (.s false 2 0 (cK []))]) K R) = W (lF (0 : Int) (1 : Int) (0 : Int) 4 1 0 0 0 1 0 0 (lc 7 [.v (vi64 3), .v (vi64 0), .v (vi64 0), .v (vu64 0), .v (vu64 0), .v (vu64 0), .v (vu64 0), .v (vi64 3), .v (vi64 0), .v (vi64 1), .v (vu64 0), .v (vu64 0), .v (vu64 0), .v (vu64 0), .v (vi64 5), .v (vi64 1), .v (vi64 0), .v (vu64 0), .v (vu64 0), .v (vu64 0), .v (vu64 0), .v (vi64 6), .v (vi64 0), .v (vi64 2), .v (vu64 0), .v (vu64 0), .v (vu64 0), .v (vu64 0)]) (lc 1 [.v (vi64 3)]) (cL []) (cK []) (cT []) (lc 1 [.s false 4 3 (cE [1,1,2])]) (cT []) (cP []) fun (c : Cir) (s : Sht) => bif (fltR c s (0 : Int) (3 : Int)).2 == (0 : Int) then lQ2 (List.length (fltR c s (0 : Int) (3 : Int)).1) 2 (cQ (fltR c s (0 : Int) (3 : Int)).1) (lc 3 [.v (vi64 1), .v (vi64 0), .v (vi64 1), .v (vi64 1), .v (vi64 0), .v (vi64 2)]) fun (l l2 : List (Int × Int × Int)) => R (.v (.bool (decide (l = l2)))) [] else R (.v (.bool false)) []) := by kernel_rfl
theorem bAl13 : Try.f23.body.isSome = true := by kernel_rfl
theorem nAl13 : Nat.ble ([] : List SV).length Try.f23.ntmps = true := by kernel_rfl
theorem al13_lF {k : Cir → Sht → Prop} (h : k alD alSh) : lF (0 : Int) (1 : Int) (0 : Int) 4 1 0 0 0 1 0 0 (lc 7 [Cell.v (vi64 (3 : Int)), Cell.v (vi64 (0 : Int)), Cell.v (vi64 (0 : Int)), Cell.v (vu64 (0 : Int)), Cell.v (vu64 (0 : Int)), Cell.v (vu64 (0 : Int)), Cell.v (vu64 (0 : Int)), Cell.v (vi64 (3 : Int)), Cell.v (vi64 (0 : Int)), Cell.v (vi64 (1 : Int)), Cell.v (vu64 (0 : Int)), Cell.v (vu64 (0 : Int)), Cell.v (vu64 (0 : Int)), Cell.v (vu64 (0 : Int)), Cell.v (vi64 (5 : Int)), Cell.v (vi64 (1 : Int)), Cell.v (vi64 (0 : Int)), Cell.v (vu64 (0 : Int)), Cell.v (vu64 (0 : Int)), Cell.v (vu64 (0 : Int)), Cell.v (vu64 (0 : Int)), Cell.v (vi64 (6 : Int)), Cell.v (vi64 (0 : Int)), Cell.v (vi64 (2 : Int)), Cell.v (vu64 (0 : Int)), Cell.v (vu64 (0 : Int)), Cell.v (vu64 (0 : Int)), Cell.v (vu64 (0 : Int))]) (lc 1 [Cell.v (vi64 (3 : Int))]) (cL []) (cK []) (cT []) (lc 1 [Cell.s false 4 3 (cE [1, 1, 2])]) (cT []) (cP []) k := by
  have := lF_mk alD alD_ok alSh alSh_ok h
  obtain ⟨c, e1, e2, e3, ⟨n0, i0⟩, ⟨n1, i1⟩, r2, r3, hk, ht2⟩ := this.h.h
  obtain ⟨s, q0, ⟨m1, j1⟩, q2, q3, hs, hq⟩ := ht2.h
  exact ⟨⟨c, e1, e2, e3, ⟨n0, alD_n.trans i0⟩, ⟨n1, alD_g.trans i1⟩, r2, r3, hk, ⟨⟨s, q0, ⟨m1, alSh_a.trans j1⟩, q2, q3, hs, hq⟩⟩⟩⟩
theorem al13_ok (Q : SV → List HO → Prop) (hq : Q (.v (.bool true)) []) : FnOk Try.prog 23 [] [] Q := by
  refine fn_of_ok Try.func23 bAl13 ?_ ?_
  · exact nAl13
  refine run_sound hm 60 ((al13S _ _).mpr ⟨And.intro (fun _ => Nat.le_refl 7) ?_⟩)
  refine FOk.norm (ks := [18,12,0]) (nl := []) (st' := (St.mk [(18, SV.agg [SV.v (Value.slice none 0 0), SV.o 0, SV.v (Value.slice none 0 0), SV.v (Value.slice none 0 0)]), (12, SV.agg [SV.v (vi64 (0 : Int)), SV.v (vi64 (1 : Int)), SV.v (vi64 (0 : Int)), SV.o 1, SV.o 2, SV.v (Value.slice none 0 0), SV.v (Value.slice none 0 0)]), (0, SV.v (Value.bool false))] [HO.row 44 1 1 [SV.o 3], HO.rowc 113 7 4 (Ct.lit 7 [Cell.v (vi64 (3 : Int)), Cell.v (vi64 (0 : Int)), Cell.v (vi64 (0 : Int)), Cell.v (vu64 (0 : Int)), Cell.v (vu64 (0 : Int)), Cell.v (vu64 (0 : Int)), Cell.v (vu64 (0 : Int)), Cell.v (vi64 (3 : Int)), Cell.v (vi64 (0 : Int)), Cell.v (vi64 (1 : Int)), Cell.v (vu64 (0 : Int)), Cell.v (vu64 (0 : Int)), Cell.v (vu64 (0 : Int)), Cell.v (vu64 (0 : Int)), Cell.v (vi64 (5 : Int)), Cell.v (vi64 (1 : Int)), Cell.v (vi64 (0 : Int)), Cell.v (vu64 (0 : Int)), Cell.v (vu64 (0 : Int)), Cell.v (vu64 (0 : Int)), Cell.v (vu64 (0 : Int)), Cell.v (vi64 (6 : Int)), Cell.v (vi64 (0 : Int)), Cell.v (vi64 (2 : Int)), Cell.v (vu64 (0 : Int)), Cell.v (vu64 (0 : Int)), Cell.v (vu64 (0 : Int)), Cell.v (vu64 (0 : Int))]), HO.rowc 3 1 1 (Ct.lit 1 [Cell.v (vi64 (3 : Int))]), HO.rowc 56 4 3 (Ct.lit 4 [Cell.v (vu64 (1 : Int)), Cell.v (vu64 (0 : Int)), Cell.v (vu64 (0 : Int)), Cell.v (vu64 (0 : Int)), Cell.v (vu64 (1 : Int)), Cell.v (vu64 (0 : Int)), Cell.v (vu64 (0 : Int)), Cell.v (vu64 (0 : Int)), Cell.v (vu64 (2 : Int)), Cell.v (vu64 (0 : Int)), Cell.v (vu64 (0 : Int)), Cell.v (vu64 (0 : Int))])])) (by kernel_rfl) ?_
  refine FOk.cv (h' := (St.heap (St.mk [(18, SV.agg [SV.v (Value.slice none 0 0), SV.o 0, SV.v (Value.slice none 0 0), SV.v (Value.slice none 0 0)]), (12, SV.agg [SV.v (vi64 (0 : Int)), SV.v (vi64 (1 : Int)), SV.v (vi64 (0 : Int)), SV.o 1, SV.o 2, SV.v (Value.slice none 0 0), SV.v (Value.slice none 0 0)]), (0, SV.v (Value.bool false))] [HO.row 44 1 1 [SV.o 3], HO.rowc 113 7 4 (Ct.lit 7 [Cell.v (vi64 (3 : Int)), Cell.v (vi64 (0 : Int)), Cell.v (vi64 (0 : Int)), Cell.v (vu64 (0 : Int)), Cell.v (vu64 (0 : Int)), Cell.v (vu64 (0 : Int)), Cell.v (vu64 (0 : Int)), Cell.v (vi64 (3 : Int)), Cell.v (vi64 (0 : Int)), Cell.v (vi64 (1 : Int)), Cell.v (vu64 (0 : Int)), Cell.v (vu64 (0 : Int)), Cell.v (vu64 (0 : Int)), Cell.v (vu64 (0 : Int)), Cell.v (vi64 (5 : Int)), Cell.v (vi64 (1 : Int)), Cell.v (vi64 (0 : Int)), Cell.v (vu64 (0 : Int)), Cell.v (vu64 (0 : Int)), Cell.v (vu64 (0 : Int)), Cell.v (vu64 (0 : Int)), Cell.v (vi64 (6 : Int)), Cell.v (vi64 (0 : Int)), Cell.v (vi64 (2 : Int)), Cell.v (vu64 (0 : Int)), Cell.v (vu64 (0 : Int)), Cell.v (vu64 (0 : Int)), Cell.v (vu64 (0 : Int))]), HO.rowc 3 1 1 (Ct.lit 1 [Cell.v (vi64 (3 : Int))]), HO.rowc 56 4 3 (Ct.fn (cE [1, 1, 2]))]))) ?_ ⟨HE.refl _, HE.refl _, HE.refl _, ⟨rfl, rfl, rfl, alSh_e⟩, trivial⟩
  refine FOk.frzH 3 rfl ?_
  refine FOk.norm (ks := [18,12,0]) (nl := []) (st' := (St.mk [(18, SV.agg [SV.v (Value.slice none 0 0), SV.o 0, SV.v (Value.slice none 0 0), SV.v (Value.slice none 0 0)]), (12, SV.agg [SV.v (vi64 (0 : Int)), SV.v (vi64 (1 : Int)), SV.v (vi64 (0 : Int)), SV.o 1, SV.o 2, SV.v (Value.slice none 0 0), SV.v (Value.slice none 0 0)]), (0, SV.v (Value.bool false))] [HO.rowc 44 1 1 (Ct.lit 1 [Cell.s false 4 3 (cE [1, 1, 2])]), HO.rowc 113 7 4 (Ct.lit 7 [Cell.v (vi64 (3 : Int)), Cell.v (vi64 (0 : Int)), Cell.v (vi64 (0 : Int)), Cell.v (vu64 (0 : Int)), Cell.v (vu64 (0 : Int)), Cell.v (vu64 (0 : Int)), Cell.v (vu64 (0 : Int)), Cell.v (vi64 (3 : Int)), Cell.v (vi64 (0 : Int)), Cell.v (vi64 (1 : Int)), Cell.v (vu64 (0 : Int)), Cell.v (vu64 (0 : Int)), Cell.v (vu64 (0 : Int)), Cell.v (vu64 (0 : Int)), Cell.v (vi64 (5 : Int)), Cell.v (vi64 (1 : Int)), Cell.v (vi64 (0 : Int)), Cell.v (vu64 (0 : Int)), Cell.v (vu64 (0 : Int)), Cell.v (vu64 (0 : Int)), Cell.v (vu64 (0 : Int)), Cell.v (vi64 (6 : Int)), Cell.v (vi64 (0 : Int)), Cell.v (vi64 (2 : Int)), Cell.v (vu64 (0 : Int)), Cell.v (vu64 (0 : Int)), Cell.v (vu64 (0 : Int)), Cell.v (vu64 (0 : Int))]), HO.rowc 3 1 1 (Ct.lit 1 [Cell.v (vi64 (3 : Int))])])) (by kernel_rfl) ?_
  refine FOk.frz 0 rfl (FOk.frz 1 rfl (FOk.frz 2 rfl ?_))
  refine FOk.norm (ks := [18,12,0]) (nl := []) (st' := (St.mk [(18, SV.agg [SV.v (Value.slice none 0 0), SV.x 0 [], SV.v (Value.slice none 0 0), SV.v (Value.slice none 0 0)]), (12, SV.agg [SV.v (vi64 (0 : Int)), SV.v (vi64 (1 : Int)), SV.v (vi64 (0 : Int)), SV.x 1 [], SV.x 2 [], SV.v (Value.slice none 0 0), SV.v (Value.slice none 0 0)]), (0, SV.v (Value.bool false))] [HO.ext false (Cell.s false 1 1 (lc 1 [Cell.s false 4 3 (cE [1, 1, 2])])), HO.ext false (Cell.s false 7 4 (lc 7 [Cell.v (vi64 (3 : Int)), Cell.v (vi64 (0 : Int)), Cell.v (vi64 (0 : Int)), Cell.v (vu64 (0 : Int)), Cell.v (vu64 (0 : Int)), Cell.v (vu64 (0 : Int)), Cell.v (vu64 (0 : Int)), Cell.v (vi64 (3 : Int)), Cell.v (vi64 (0 : Int)), Cell.v (vi64 (1 : Int)), Cell.v (vu64 (0 : Int)), Cell.v (vu64 (0 : Int)), Cell.v (vu64 (0 : Int)), Cell.v (vu64 (0 : Int)), Cell.v (vi64 (5 : Int)), Cell.v (vi64 (1 : Int)), Cell.v (vi64 (0 : Int)), Cell.v (vu64 (0 : Int)), Cell.v (vu64 (0 : Int)), Cell.v (vu64 (0 : Int)), Cell.v (vu64 (0 : Int)), Cell.v (vi64 (6 : Int)), Cell.v (vi64 (0 : Int)), Cell.v (vi64 (2 : Int)), Cell.v (vu64 (0 : Int)), Cell.v (vu64 (0 : Int)), Cell.v (vu64 (0 : Int)), Cell.v (vu64 (0 : Int))])), HO.ext false (Cell.s false 1 1 (lc 1 [Cell.v (vi64 (3 : Int))]))])) (by kernel_rfl) ?_
  refine FOk.nilA 12 5 2 (cL []) rfl rfl (FOk.nilA 12 6 2 (cK []) rfl rfl (FOk.nilA 18 0 1 (cT []) rfl rfl (FOk.nilA 18 2 1 (cT []) rfl rfl (FOk.nilA 18 3 4 (cP []) rfl rfl ?_))))
  refine FOk.norm (ks := [18,12,0]) (nl := []) (st' := (St.mk [(18, SV.agg [SV.x 0 [], SV.x 1 [], SV.x 2 [], SV.x 3 []]), (12, SV.agg [SV.v (vi64 (0 : Int)), SV.v (vi64 (1 : Int)), SV.v (vi64 (0 : Int)), SV.x 4 [], SV.x 5 [], SV.x 6 [], SV.x 7 []]), (0, SV.v (Value.bool false))] [HO.ext false (Cell.s false 1 0 (cT [])), HO.ext false (Cell.s false 1 1 (lc 1 [Cell.s false 4 3 (cE [1, 1, 2])])), HO.ext false (Cell.s false 1 0 (cT [])), HO.ext false (Cell.s false 4 0 (cP [])), HO.ext false (Cell.s false 7 4 (lc 7 [Cell.v (vi64 (3 : Int)), Cell.v (vi64 (0 : Int)), Cell.v (vi64 (0 : Int)), Cell.v (vu64 (0 : Int)), Cell.v (vu64 (0 : Int)), Cell.v (vu64 (0 : Int)), Cell.v (vu64 (0 : Int)), Cell.v (vi64 (3 : Int)), Cell.v (vi64 (0 : Int)), Cell.v (vi64 (1 : Int)), Cell.v (vu64 (0 : Int)), Cell.v (vu64 (0 : Int)), Cell.v (vu64 (0 : Int)), Cell.v (vu64 (0 : Int)), Cell.v (vi64 (5 : Int)), Cell.v (vi64 (1 : Int)), Cell.v (vi64 (0 : Int)), Cell.v (vu64 (0 : Int)), Cell.v (vu64 (0 : Int)), Cell.v (vu64 (0 : Int)), Cell.v (vu64 (0 : Int)), Cell.v (vi64 (6 : Int)), Cell.v (vi64 (0 : Int)), Cell.v (vi64 (2 : Int)), Cell.v (vu64 (0 : Int)), Cell.v (vu64 (0 : Int)), Cell.v (vu64 (0 : Int)), Cell.v (vu64 (0 : Int))])), HO.ext false (Cell.s false 1 1 (lc 1 [Cell.v (vi64 (3 : Int))])), HO.ext false (Cell.s false 2 0 (cL [])), HO.ext false (Cell.s false 2 0 (cK []))])) (by kernel_rfl) ?_
  refine run_sound hm 60 ((al13R _ _).mpr ⟨al13_lF ?_⟩)
  rw [al_flt]
  refine ⟨⟨_, [(1, 0, 1), (1, 0, 2)], rfl, IsC.refl _ _ _, rfl, al_fl, by decide, ?_⟩⟩
  rw [decide_eq_true rfl]
  exact hq
noncomputable def gAl13 : List SV → List HO → Option ((SV → List HO → Prop) → Prop)
  | [], [] => some fun Q => Q (.v (.bool true)) []
  | _, _ => none
theorem gAl13_ok (args : List SV) (h : List HO) (tr : (SV → List HO → Prop) → Prop) (Q : SV → List HO → Prop) (hc : gAl13 args h = some tr) (ht : tr Q) : FnOk Try.prog 23 args h Q := by
  unfold gAl13 at hc
  split at hc
  · simp only [Option.some.injEq] at hc
    subst hc
    exact al13_ok Q ht
  · cases hc
noncomputable def K83 : Con Try.prog := K82.add 23 gAl13 gAl13_ok
end Go.Proofs.Ytlmjdcbhpffanaa
/- Arguments whose objects are told in another order. -/
namespace Go.Sx
open Go.RowKit
theorem FnOk.gcA {P : Program} {f : FuncId} {args args' : List SV} {h h' : List HO} {Q : SV → List HO → Prop} (π : List Nat) (hn : nodupB π = true) (ha : invL π args = some args') (hh : invHs π h π = some h') (k : FnOk P f args' h' Q) : FnOk P f args h Q := by
  intro F hF w0 e hm0 S hw
  obtain ⟨l1, l2⟩ := invHs_sound π h π hh
  obtain ⟨a, b⟩ := invL_sound π args ha
  have := k F hF w0 (renEnv π e) hm0 (S.ren hF π hn ⟨by rw [hm0]; exact Nat.zero_le _, fun i hi => by rw [hm0] at hi; omega⟩ (fun i x hx => (l2 i x hx).1) (fun i x hx => by rw [l1]; exact (l2 i x hx).2)) (by rw [l1]; exact b)
  rw [denL_ren, a] at this
  exact this
end Go.Sx
/- Circuits and sheets with nil slices. -/
namespace Go.Proofs.Ytlmjdcbhpffanaa
open Go.Sx Go.Pl
set_option linter.unusedVariables false
set_option maxRecDepth 100000
theorem fnL_ok (c : Cir) (hc : c.ok) (s : Sht) (hs : s.ok) (so k : Int) (h2 : c.looks = []) (Q : SV → List HO → Prop) (hq : Q (.tup [.o 0, .v (.int .i64 (fltR c s so k).2)]) [.rowc 76 3 (fltR c s so k).1.length (.fn (cQ (fltR c s so k).1))]) : FnOk Try.prog 25 [.v (.int .i64 so), .agg [.v (.int .i64 c.fx), .v (.int .i64 c.ad), .v (.int .i64 c.ins), .x 0 [], .x 1 [], .v (.slice none 0 0), .x 2 []], .v (.int .i64 k), .agg [.x 3 [], .x 4 [], .x 5 [], .x 6 []]] [.ext false (.s false 7 c.nodes.length (cN c.nodes)), .ext false (.s false 1 c.gates.length (cI c.gates)), .ext false (.s false 2 c.eqs.length (cK c.eqs)), .ext false (.s false 1 s.fx.length (cT s.fx)), .ext false (.s false 1 s.ad.length (cT s.ad)), .ext false (.s false 1 s.is.length (cT s.is)), .ext false (.s false 4 s.cp.length (cP s.cp))] Q := by
  have hs2 : ∀ (e e0 : Env) (n : Nat), agree n e0 e → ∀ i, i < n → e.val i [] = e0.val i [] := fun e e0 n ag i hi => by rw [(ag.1 i hi).2.2]
  refine FnOk.nilX (args' := [.v (.int .i64 so), .agg [.v (.int .i64 c.fx), .v (.int .i64 c.ad), .v (.int .i64 c.ins), .x 0 [], .x 1 [], .x 7 [], .x 2 []], .v (.int .i64 k), .agg [.x 3 [], .x 4 [], .x 5 [], .x 6 []]]) 2 (cL c.looks) ?_ ?_ ?_
  · simp [wsL, ws]
  · intro e e0 hv ag
    simp only [List.length_cons, List.length_nil] at hv ag
    simp [denL, den, hv, hs2 e e0 _ ag 0 (by omega), hs2 e e0 _ ag 1 (by omega), hs2 e e0 _ ag 2 (by omega), hs2 e e0 _ ag 3 (by omega), hs2 e e0 _ ag 4 (by omega), hs2 e e0 _ ag 5 (by omega), hs2 e e0 _ ag 6 (by omega)]
  refine FnOk.gcA (args' := [.v (.int .i64 so), .agg [.v (.int .i64 c.fx), .v (.int .i64 c.ad), .v (.int .i64 c.ins), .x 0 [], .x 1 [], .x 2 [], .x 3 []], .v (.int .i64 k), .agg [.x 4 [], .x 5 [], .x 6 [], .x 7 []]]) (h' := [.ext false (.s false 7 c.nodes.length (cN c.nodes)), .ext false (.s false 1 c.gates.length (cI c.gates)), .ext false (.s false 2 0 (cL c.looks)), .ext false (.s false 2 c.eqs.length (cK c.eqs)), .ext false (.s false 1 s.fx.length (cT s.fx)), .ext false (.s false 1 s.ad.length (cT s.ad)), .ext false (.s false 1 s.is.length (cT s.is)), .ext false (.s false 4 s.cp.length (cP s.cp))]) [0, 1, 7, 2, 3, 4, 5, 6] (by kernel_rfl) (by kernel_rfl) (by kernel_rfl) ?_
  have := flt_ok c hc s hs so k Q hq
  rw [h2] at this
  rw [h2]
  exact this
noncomputable def g_fnL : List SV → List HO → Option ((SV → List HO → Prop) → Prop)
  | [.v (.int .i64 so), .agg [.v (.int .i64 fx), .v (.int .i64 ad), .v (.int .i64 ins), .x 0 [], .x 1 [], .v (.slice none 0 0), .x 2 []], .v (.int .i64 k), .agg [.x 3 [], .x 4 [], .x 5 [], .x 6 []]], [.ext false (.s false 7 n0 c0), .ext false (.s false 1 n1 c1), .ext false (.s false 2 n3 c3), .ext false (.s false 1 n4 c4), .ext false (.s false 1 n5 c5), .ext false (.s false 1 n6 c6), .ext false (.s false 4 n7 c7)] => some fun Q => lF fx ad ins n0 n1 0 n3 n4 n5 n6 n7 c0 c1 (cL []) c3 c4 c5 c6 c7 fun c s => Q (.tup [.o 0, .v (.int .i64 (fltR c s so k).2)]) [.rowc 76 3 (fltR c s so k).1.length (.fn (cQ (fltR c s so k).1))]
  | _, _ => none
theorem g_fnL_ok (args : List SV) (h : List HO) (tr : (SV → List HO → Prop) → Prop) (Q : SV → List HO → Prop) (hc : g_fnL args h = some tr) (ht : tr Q) : FnOk Try.prog 25 args h Q := by
  unfold g_fnL at hc
  split at hc
  · simp only [Option.some.injEq] at hc
    subst hc
    obtain ⟨c, rfl, rfl, rfl, ⟨rfl, e0⟩, ⟨rfl, e1⟩, ⟨n2, e2⟩, ⟨rfl, e3⟩, hk, ht2⟩ := ht.h.h
    obtain ⟨s, ⟨rfl, e4⟩, ⟨rfl, e5⟩, ⟨rfl, e6⟩, ⟨rfl, e7⟩, hs, hq⟩ := ht2.h
    exact FnOk.ac (fnL_ok c hk s hs _ _ (List.eq_nil_of_length_eq_zero n2.symm) Q hq) ⟨⟨rfl, rfl, rfl, rfl, e0⟩, ⟨rfl, rfl, rfl, rfl, e1⟩, ⟨rfl, rfl, rfl, rfl, e3⟩, ⟨rfl, rfl, rfl, rfl, e4⟩, ⟨rfl, rfl, rfl, rfl, e5⟩, ⟨rfl, rfl, rfl, rfl, e6⟩, ⟨rfl, rfl, rfl, rfl, e7⟩, trivial⟩
  · cases hc
theorem fnGC_ok (c : Cir) (hc : c.ok) (s : Sht) (hs : s.ok) (so k : Int) (h1 : c.gates = []) (h7 : s.cp = []) (Q : SV → List HO → Prop) (hq : Q (.tup [.o 0, .v (.int .i64 (fltR c s so k).2)]) [.rowc 76 3 (fltR c s so k).1.length (.fn (cQ (fltR c s so k).1))]) : FnOk Try.prog 25 [.v (.int .i64 so), .agg [.v (.int .i64 c.fx), .v (.int .i64 c.ad), .v (.int .i64 c.ins), .x 0 [], .v (.slice none 0 0), .x 1 [], .x 2 []], .v (.int .i64 k), .agg [.x 3 [], .x 4 [], .x 5 [], .v (.slice none 0 0)]] [.ext false (.s false 7 c.nodes.length (cN c.nodes)), .ext false (.s false 2 c.looks.length (cL c.looks)), .ext false (.s false 2 c.eqs.length (cK c.eqs)), .ext false (.s false 1 s.fx.length (cT s.fx)), .ext false (.s false 1 s.ad.length (cT s.ad)), .ext false (.s false 1 s.is.length (cT s.is))] Q := by
  have hs2 : ∀ (e e0 : Env) (n : Nat), agree n e0 e → ∀ i, i < n → e.val i [] = e0.val i [] := fun e e0 n ag i hi => by rw [(ag.1 i hi).2.2]
  refine FnOk.nilX (args' := [.v (.int .i64 so), .agg [.v (.int .i64 c.fx), .v (.int .i64 c.ad), .v (.int .i64 c.ins), .x 0 [], .x 6 [], .x 1 [], .x 2 []], .v (.int .i64 k), .agg [.x 3 [], .x 4 [], .x 5 [], .v (.slice none 0 0)]]) 1 (cI c.gates) ?_ ?_ ?_
  · simp [wsL, ws]
  · intro e e0 hv ag
    simp only [List.length_cons, List.length_nil] at hv ag
    simp [denL, den, hv, hs2 e e0 _ ag 0 (by omega), hs2 e e0 _ ag 1 (by omega), hs2 e e0 _ ag 2 (by omega), hs2 e e0 _ ag 3 (by omega), hs2 e e0 _ ag 4 (by omega), hs2 e e0 _ ag 5 (by omega)]
  refine FnOk.nilX (args' := [.v (.int .i64 so), .agg [.v (.int .i64 c.fx), .v (.int .i64 c.ad), .v (.int .i64 c.ins), .x 0 [], .x 6 [], .x 1 [], .x 2 []], .v (.int .i64 k), .agg [.x 3 [], .x 4 [], .x 5 [], .x 7 []]]) 4 (cP s.cp) ?_ ?_ ?_
  · simp [wsL, ws]
  · intro e e0 hv ag
    simp only [List.length_cons, List.length_nil, List.length_append] at hv ag
    simp [denL, den, hv, hs2 e e0 _ ag 0 (by omega), hs2 e e0 _ ag 1 (by omega), hs2 e e0 _ ag 2 (by omega), hs2 e e0 _ ag 3 (by omega), hs2 e e0 _ ag 4 (by omega), hs2 e e0 _ ag 5 (by omega), hs2 e e0 _ ag 6 (by omega)]
  refine FnOk.gcA (args' := [.v (.int .i64 so), .agg [.v (.int .i64 c.fx), .v (.int .i64 c.ad), .v (.int .i64 c.ins), .x 0 [], .x 1 [], .x 2 [], .x 3 []], .v (.int .i64 k), .agg [.x 4 [], .x 5 [], .x 6 [], .x 7 []]]) (h' := [.ext false (.s false 7 c.nodes.length (cN c.nodes)), .ext false (.s false 1 0 (cI c.gates)), .ext false (.s false 2 c.looks.length (cL c.looks)), .ext false (.s false 2 c.eqs.length (cK c.eqs)), .ext false (.s false 1 s.fx.length (cT s.fx)), .ext false (.s false 1 s.ad.length (cT s.ad)), .ext false (.s false 1 s.is.length (cT s.is)), .ext false (.s false 4 0 (cP s.cp))]) [0, 6, 1, 2, 3, 4, 5, 7] (by kernel_rfl) (by kernel_rfl) (by kernel_rfl) ?_
  have := flt_ok c hc s hs so k Q hq
  rw [h1, h7] at this
  rw [h1, h7]
  exact this
noncomputable def g_fnGC : List SV → List HO → Option ((SV → List HO → Prop) → Prop)
  | [.v (.int .i64 so), .agg [.v (.int .i64 fx), .v (.int .i64 ad), .v (.int .i64 ins), .x 0 [], .v (.slice none 0 0), .x 1 [], .x 2 []], .v (.int .i64 k), .agg [.x 3 [], .x 4 [], .x 5 [], .v (.slice none 0 0)]], [.ext false (.s false 7 n0 c0), .ext false (.s false 2 n2 c2), .ext false (.s false 2 n3 c3), .ext false (.s false 1 n4 c4), .ext false (.s false 1 n5 c5), .ext false (.s false 1 n6 c6)] => some fun Q => lF fx ad ins n0 0 n2 n3 n4 n5 n6 0 c0 (cI []) c2 c3 c4 c5 c6 (cP []) fun c s => Q (.tup [.o 0, .v (.int .i64 (fltR c s so k).2)]) [.rowc 76 3 (fltR c s so k).1.length (.fn (cQ (fltR c s so k).1))]
  | _, _ => none
theorem g_fnGC_ok (args : List SV) (h : List HO) (tr : (SV → List HO → Prop) → Prop) (Q : SV → List HO → Prop) (hc : g_fnGC args h = some tr) (ht : tr Q) : FnOk Try.prog 25 args h Q := by
  unfold g_fnGC at hc
  split at hc
  · simp only [Option.some.injEq] at hc
    subst hc
    obtain ⟨c, rfl, rfl, rfl, ⟨rfl, e0⟩, ⟨n1, e1⟩, ⟨rfl, e2⟩, ⟨rfl, e3⟩, hk, ht2⟩ := ht.h.h
    obtain ⟨s, ⟨rfl, e4⟩, ⟨rfl, e5⟩, ⟨rfl, e6⟩, ⟨n7, e7⟩, hs, hq⟩ := ht2.h
    exact FnOk.ac (fnGC_ok c hk s hs _ _ (List.eq_nil_of_length_eq_zero n1.symm) (List.eq_nil_of_length_eq_zero n7.symm) Q hq) ⟨⟨rfl, rfl, rfl, rfl, e0⟩, ⟨rfl, rfl, rfl, rfl, e2⟩, ⟨rfl, rfl, rfl, rfl, e3⟩, ⟨rfl, rfl, rfl, rfl, e4⟩, ⟨rfl, rfl, rfl, rfl, e5⟩, ⟨rfl, rfl, rfl, rfl, e6⟩, trivial⟩
  · cases hc
theorem fnGL_ok (c : Cir) (hc : c.ok) (s : Sht) (hs : s.ok) (so k : Int) (h1 : c.gates = []) (h2 : c.looks = []) (Q : SV → List HO → Prop) (hq : Q (.tup [.o 0, .v (.int .i64 (fltR c s so k).2)]) [.rowc 76 3 (fltR c s so k).1.length (.fn (cQ (fltR c s so k).1))]) : FnOk Try.prog 25 [.v (.int .i64 so), .agg [.v (.int .i64 c.fx), .v (.int .i64 c.ad), .v (.int .i64 c.ins), .x 0 [], .v (.slice none 0 0), .v (.slice none 0 0), .x 1 []], .v (.int .i64 k), .agg [.x 2 [], .x 3 [], .x 4 [], .x 5 []]] [.ext false (.s false 7 c.nodes.length (cN c.nodes)), .ext false (.s false 2 c.eqs.length (cK c.eqs)), .ext false (.s false 1 s.fx.length (cT s.fx)), .ext false (.s false 1 s.ad.length (cT s.ad)), .ext false (.s false 1 s.is.length (cT s.is)), .ext false (.s false 4 s.cp.length (cP s.cp))] Q := by
  have hs2 : ∀ (e e0 : Env) (n : Nat), agree n e0 e → ∀ i, i < n → e.val i [] = e0.val i [] := fun e e0 n ag i hi => by rw [(ag.1 i hi).2.2]
  refine FnOk.nilX (args' := [.v (.int .i64 so), .agg [.v (.int .i64 c.fx), .v (.int .i64 c.ad), .v (.int .i64 c.ins), .x 0 [], .x 6 [], .v (.slice none 0 0), .x 1 []], .v (.int .i64 k), .agg [.x 2 [], .x 3 [], .x 4 [], .x 5 []]]) 1 (cI c.gates) ?_ ?_ ?_
  · simp [wsL, ws]
  · intro e e0 hv ag
    simp only [List.length_cons, List.length_nil] at hv ag
    simp [denL, den, hv, hs2 e e0 _ ag 0 (by omega), hs2 e e0 _ ag 1 (by omega), hs2 e e0 _ ag 2 (by omega), hs2 e e0 _ ag 3 (by omega), hs2 e e0 _ ag 4 (by omega), hs2 e e0 _ ag 5 (by omega)]
  refine FnOk.nilX (args' := [.v (.int .i64 so), .agg [.v (.int .i64 c.fx), .v (.int .i64 c.ad), .v (.int .i64 c.ins), .x 0 [], .x 6 [], .x 7 [], .x 1 []], .v (.int .i64 k), .agg [.x 2 [], .x 3 [], .x 4 [], .x 5 []]]) 2 (cL c.looks) ?_ ?_ ?_
  · simp [wsL, ws]
  · intro e e0 hv ag
    simp only [List.length_cons, List.length_nil, List.length_append] at hv ag
    simp [denL, den, hv, hs2 e e0 _ ag 0 (by omega), hs2 e e0 _ ag 1 (by omega), hs2 e e0 _ ag 2 (by omega), hs2 e e0 _ ag 3 (by omega), hs2 e e0 _ ag 4 (by omega), hs2 e e0 _ ag 5 (by omega), hs2 e e0 _ ag 6 (by omega)]
  refine FnOk.gcA (args' := [.v (.int .i64 so), .agg [.v (.int .i64 c.fx), .v (.int .i64 c.ad), .v (.int .i64 c.ins), .x 0 [], .x 1 [], .x 2 [], .x 3 []], .v (.int .i64 k), .agg [.x 4 [], .x 5 [], .x 6 [], .x 7 []]]) (h' := [.ext false (.s false 7 c.nodes.length (cN c.nodes)), .ext false (.s false 1 0 (cI c.gates)), .ext false (.s false 2 0 (cL c.looks)), .ext false (.s false 2 c.eqs.length (cK c.eqs)), .ext false (.s false 1 s.fx.length (cT s.fx)), .ext false (.s false 1 s.ad.length (cT s.ad)), .ext false (.s false 1 s.is.length (cT s.is)), .ext false (.s false 4 s.cp.length (cP s.cp))]) [0, 6, 7, 1, 2, 3, 4, 5] (by kernel_rfl) (by kernel_rfl) (by kernel_rfl) ?_
  have := flt_ok c hc s hs so k Q hq
  rw [h1, h2] at this
  rw [h1, h2]
  exact this
noncomputable def g_fnGL : List SV → List HO → Option ((SV → List HO → Prop) → Prop)
  | [.v (.int .i64 so), .agg [.v (.int .i64 fx), .v (.int .i64 ad), .v (.int .i64 ins), .x 0 [], .v (.slice none 0 0), .v (.slice none 0 0), .x 1 []], .v (.int .i64 k), .agg [.x 2 [], .x 3 [], .x 4 [], .x 5 []]], [.ext false (.s false 7 n0 c0), .ext false (.s false 2 n3 c3), .ext false (.s false 1 n4 c4), .ext false (.s false 1 n5 c5), .ext false (.s false 1 n6 c6), .ext false (.s false 4 n7 c7)] => some fun Q => lF fx ad ins n0 0 0 n3 n4 n5 n6 n7 c0 (cI []) (cL []) c3 c4 c5 c6 c7 fun c s => Q (.tup [.o 0, .v (.int .i64 (fltR c s so k).2)]) [.rowc 76 3 (fltR c s so k).1.length (.fn (cQ (fltR c s so k).1))]
  | _, _ => none
theorem g_fnGL_ok (args : List SV) (h : List HO) (tr : (SV → List HO → Prop) → Prop) (Q : SV → List HO → Prop) (hc : g_fnGL args h = some tr) (ht : tr Q) : FnOk Try.prog 25 args h Q := by
  unfold g_fnGL at hc
  split at hc
  · simp only [Option.some.injEq] at hc
    subst hc
    obtain ⟨c, rfl, rfl, rfl, ⟨rfl, e0⟩, ⟨n1, e1⟩, ⟨n2, e2⟩, ⟨rfl, e3⟩, hk, ht2⟩ := ht.h.h
    obtain ⟨s, ⟨rfl, e4⟩, ⟨rfl, e5⟩, ⟨rfl, e6⟩, ⟨rfl, e7⟩, hs, hq⟩ := ht2.h
    exact FnOk.ac (fnGL_ok c hk s hs _ _ (List.eq_nil_of_length_eq_zero n1.symm) (List.eq_nil_of_length_eq_zero n2.symm) Q hq) ⟨⟨rfl, rfl, rfl, rfl, e0⟩, ⟨rfl, rfl, rfl, rfl, e3⟩, ⟨rfl, rfl, rfl, rfl, e4⟩, ⟨rfl, rfl, rfl, rfl, e5⟩, ⟨rfl, rfl, rfl, rfl, e6⟩, ⟨rfl, rfl, rfl, rfl, e7⟩, trivial⟩
  · cases hc
noncomputable def orG (g1 g2 : List SV → List HO → Option ((SV → List HO → Prop) → Prop)) : List SV → List HO → Option ((SV → List HO → Prop) → Prop) := fun args h => match g1 args h with
  | some t => some t
  | none => g2 args h
theorem orG_ok {f : FuncId} {g1 g2 : List SV → List HO → Option ((SV → List HO → Prop) → Prop)} (h1 : ∀ args h tr Q, g1 args h = some tr → tr Q → FnOk Try.prog f args h Q) (h2 : ∀ args h tr Q, g2 args h = some tr → tr Q → FnOk Try.prog f args h Q) : ∀ args h tr Q, orG g1 g2 args h = some tr → tr Q → FnOk Try.prog f args h Q := by
  intro args h tr Q hc ht
  unfold orG at hc
  split at hc
  · rename_i t e
    cases hc
    exact h1 args h _ Q e ht
  · exact h2 args h tr Q hc ht
theorem csn_ok (s : Sht) (hs : s.ok) (h0 : s.cp = []) (Q : SV → List HO → Prop) (hq : Q (.agg [.x 0 [], .x 1 [], .x 2 [], .x 3 []]) [.ext false (.s false 1 s.fx.length (cT s.fx)), .ext false (.s false 1 s.ad.length (cT s.ad)), .ext false (.s false 1 s.is.length (cT s.is)), .ext false (.s false 4 s.cp.length (cP s.cp))]) : FnOk Try.prog 21 [.agg [.x 0 [], .x 1 [], .x 2 [], .v (.slice none 0 0)]] [.ext false (.s false 1 s.fx.length (cT s.fx)), .ext false (.s false 1 s.ad.length (cT s.ad)), .ext false (.s false 1 s.is.length (cT s.is))] Q := by
  have hs2 : ∀ (e e0 : Env) (n : Nat), agree n e0 e → ∀ i, i < n → e.val i [] = e0.val i [] := fun e e0 n ag i hi => by rw [(ag.1 i hi).2.2]
  refine FnOk.nilX (args' := [.agg [.x 0 [], .x 1 [], .x 2 [], .x 3 []]]) 4 (cP s.cp) ?_ ?_ ?_
  · simp [wsL, ws]
  · intro e e0 hv ag
    simp only [List.length_cons, List.length_nil] at hv ag
    simp [denL, den, hv, hs2 e e0 _ ag 0 (by omega), hs2 e e0 _ ag 1 (by omega), hs2 e e0 _ ag 2 (by omega)]
  have := cs_ok s hs Q hq
  rw [h0] at this
  rw [h0]
  exact this
noncomputable def gCs2 : List SV → List HO → Option ((SV → List HO → Prop) → Prop)
  | [.agg [.x 0 [], .x 1 [], .x 2 [], .x 3 []]], [.ext false (.s false 1 n0 c0), .ext false (.s false 1 n1 c1), .ext false (.s false 1 n2 c2), .ext false (.s false 4 n3 c3)] =>
    some fun Q => lS n0 n1 n2 n3 c0 c1 c2 c3 fun s => Q (.agg [.x 0 [], .x 1 [], .x 2 [], .x 3 []]) [.ext false (.s false 1 s.fx.length (cT s.fx)), .ext false (.s false 1 s.ad.length (cT s.ad)), .ext false (.s false 1 s.is.length (cT s.is)), .ext false (.s false 4 s.cp.length (cP s.cp))]
  | [.agg [.x 0 [], .x 1 [], .x 2 [], .v (.slice none 0 0)]], [.ext false (.s false 1 n0 c0), .ext false (.s false 1 n1 c1), .ext false (.s false 1 n2 c2)] =>
    some fun Q => lS n0 n1 n2 0 c0 c1 c2 (cP []) fun s => Q (.agg [.x 0 [], .x 1 [], .x 2 [], .x 3 []]) [.ext false (.s false 1 s.fx.length (cT s.fx)), .ext false (.s false 1 s.ad.length (cT s.ad)), .ext false (.s false 1 s.is.length (cT s.is)), .ext false (.s false 4 s.cp.length (cP s.cp))]
  | _, _ => none
theorem gCs2_ok (args : List SV) (h : List HO) (tr : (SV → List HO → Prop) → Prop) (Q : SV → List HO → Prop) (hc : gCs2 args h = some tr) (ht : tr Q) : FnOk Try.prog 21 args h Q := by
  unfold gCs2 at hc
  split at hc
  · simp only [Option.some.injEq] at hc
    subst hc
    obtain ⟨s, ⟨rfl, e0⟩, ⟨rfl, e1⟩, ⟨rfl, e2⟩, ⟨rfl, e3⟩, hs, hq⟩ := ht.h
    exact FnOk.ac (cs_ok s hs Q hq) ⟨⟨rfl, rfl, rfl, rfl, e0⟩, ⟨rfl, rfl, rfl, rfl, e1⟩, ⟨rfl, rfl, rfl, rfl, e2⟩, ⟨rfl, rfl, rfl, rfl, e3⟩, trivial⟩
  · simp only [Option.some.injEq] at hc
    subst hc
    obtain ⟨s, ⟨rfl, e0⟩, ⟨rfl, e1⟩, ⟨rfl, e2⟩, ⟨n3, e3⟩, hs, hq⟩ := ht.h
    exact FnOk.ac (csn_ok s hs (List.eq_nil_of_length_eq_zero n3.symm) Q hq) ⟨⟨rfl, rfl, rfl, rfl, e0⟩, ⟨rfl, rfl, rfl, rfl, e1⟩, ⟨rfl, rfl, rfl, rfl, e2⟩, trivial⟩
  · cases hc
noncomputable def K84 : Con Try.prog := (K83.add 25 (orG gFlt (orG g_fnL (orG g_fnGC g_fnGL))) (orG_ok gFlt_ok (orG_ok g_fnL_ok (orG_ok g_fnGC_ok g_fnGL_ok)))).add 21 gCs2 gCs2_ok
end Go.Proofs.Ytlmjdcbhpffanaa
/- Values with the modulus put to them: plain. -/
namespace Go.Pl
open Go.Sx
noncomputable def mdV (so : Int) (v : Nat) : Nat := fAd so v 0 + fP so
noncomputable def modT (so : Int) (t : List (List Nat)) : List (List Nat) := t.map fun col => col.map (mdV so)
noncomputable def modS (so : Int) (s : Sht) : Sht := ⟨s.fx, modT so s.ad, s.is, s.cp⟩
theorem fAd_md (so : Int) (v : Nat) : fAd so (mdV so v) 0 = fAd so v 0 := by
  unfold mdV fAd
  split
  · rfl
  · simp only [fA_eq, Nat.add_zero, Nat.add_mod_right, Nat.mod_mod]
theorem gE_mod (so : Int) (col : List Nat) (k : Nat) : fAd so (gE (col.map (mdV so)) k) 0 = fAd so (gE col k) 0 := by
  simp only [gE, List.getD_eq_getElem?_getD, List.getElem?_map]
  cases col[k]? with
  | none => rfl
  | some v => exact fAd_md so v
theorem gT_mod (so : Int) (t : List (List Nat)) (k : Nat) : gT (modT so t) k = (gT t k).map (mdV so) := by
  simp only [gT, modT, List.getD_eq_getElem?_getD, List.getElem?_map]
  cases t[k]? <;> rfl
theorem atT_mod (so : Int) (t : List (List Nat)) (co ro : Int) : fAd so (atT (modT so t) co ro) 0 = fAd so (atT t co ro) 0 := by
  unfold atT
  split
  · rfl
  · rw [gT_mod, gE_mod]
theorem atS_mod (so : Int) (s : Sht) (kd co ro : Int) : fAd so (atS (modS so s) kd co ro) 0 = fAd so (atS s kd co ro) 0 := by
  unfold atS tabS
  by_cases h2 : kd = 2
  · rw [if_pos h2, if_pos h2]; rfl
  rw [if_neg h2, if_neg h2]
  by_cases h3 : kd = 3
  · rw [if_pos h3, if_pos h3]; exact atT_mod so s.ad co ro
  rw [if_neg h3, if_neg h3]
  rfl
theorem valsN_congr {s : Int} {qs : List Qy} {vs vs' : List Nat} (h : ∀ k, fAd s (gE vs' k) 0 = fAd s (gE vs k) 0) : ∀ (l : List Nd) (out : List Nat), valsN s qs vs' out l = valsN s qs vs out l
  | [], out => rfl
  | x :: r, out => by
    have hd : (valD s qs vs' out x).map (fun v => fAd s v 0) = (valD s qs vs out x).map (fun v => fAd s v 0) := by
      unfold valD
      repeat' split
      all_goals first
        | rfl
        | simp only [Option.map_some, h]
    rw [valsN, valsN]
    cases e1 : valD s qs vs' out x with
    | none =>
      rw [e1] at hd
      cases e2 : valD s qs vs out x with
      | none => rfl
      | some v => rw [e2] at hd; cases hd
    | some v' =>
      rw [e1] at hd
      cases e2 : valD s qs vs out x with
      | none => rw [e2] at hd; cases hd
      | some v =>
        rw [e2] at hd
        simp only [Option.map_some, Option.some.injEq] at hd
        show valsN s qs vs' (out ++ [fAd s v' 0]) r = valsN s qs vs (out ++ [fAd s v 0]) r
        rw [hd]
        exact valsN_congr h r _
theorem vlR_congr {s : Int} {qs : List Qy} {vs vs' : List Nat} (hl : vs'.length = vs.length) (h : ∀ k, fAd s (gE vs' k) 0 = fAd s (gE vs k) 0) (l : List Nd) : vlR s qs vs' l = vlR s qs vs l := by
  unfold vlR
  rw [hl, valsN_congr h]
theorem rowV_mod (c : Cir) (s : Sht) (so k : Int) (qs : List (Int × Int × Int)) (r : Int) : rowV c (modS so s) so k qs r = rowV c s so k qs r := by
  unfold rowV
  rw [vlR_congr (vs := atQ s k r qs) (by rw [atQ, atQ, List.length_map, List.length_map]) (fun j => ?_)]
  simp only [atQ, gE, List.getD_eq_getElem?_getD, List.getElem?_map]
  cases qs[j]? with
  | none => rfl
  | some q => exact atS_mod so s _ _ _
theorem rowsA_mod (c : Cir) (s : Sht) (so k : Int) (n : Nat) : rowsA c (modS so s) so k n = rowsA c s so k n := by
  unfold rowsA
  exact List.map_congr_left fun r _ => rowV_mod c s so k _ _
theorem copF_mod (c : Cir) (s : Sht) (so : Int) : ∀ (l : List (Int × Int × Int × Int)) (i : Int), copF c (modS so s) so i l = copF c s so i l
  | [], _ => rfl
  | x :: t, i => by
    rw [copF, copF, copF_mod c s so t]
    simp only [cellV, atS_mod]
    rfl
theorem wrT_mod (so n u : Int) (t : List (List Nat)) : wrT n u (modT so t) = wrT n u t := by
  unfold wrT modT
  rw [List.length_map, List.any_map]
  congr 2
  funext col
  simp [longB]
theorem fitV_mod (c : Cir) (k : Int) (so : Int) (s : Sht) : fitV c k (modS so s) = fitV c k s := by
  unfold fitV
  simp only [modS, wrT_mod]
  rfl
theorem fltR_mod (c : Cir) (s : Sht) (so k : Int) : fltR c (modS so s) so k = fltR c s so k := by
  unfold fltR
  rw [fitV_mod]
  unfold fltV
  rw [rowsA_mod]
  simp only [modS]
  rw [show copF c ⟨s.fx, modT so s.ad, s.is, s.cp⟩ so 0 s.cp = copF c s so 0 s.cp from copF_mod c s so s.cp 0]
theorem fAd_little {so : Int} (h : so = 0 ∨ so = 1) (v : Nat) : fAd so v 0 < fP so ∧ fP so ≤ 16521217 := by
  have hp : 0 < fP so ∧ fP so ≤ 16521217 := by rcases h with rfl | rfl <;> decide
  refine ⟨?_, hp.2⟩
  rw [fAd, if_neg (by omega), fA_eq]
  exact Nat.mod_lt _ hp.1
theorem mdV_top {so : Int} (h : so = 0 ∨ so = 1) (v : Nat) : mdV so v < top := by
  have := fAd_little h v
  unfold mdV
  simp only [top]
  omega
theorem modS_ok {so : Int} (h : so = 0 ∨ so = 1) {s : Sht} (hs : s.ok) : (modS so s).ok where
  f := hs.f
  i := hs.i
  c := hs.c
  a := by
    obtain ⟨h1, h2⟩ := hs.a
    refine ⟨fun col hc => ?_, by rw [show (modS so s).ad = modT so s.ad from rfl, modT, List.length_map]; exact h2⟩
    obtain ⟨col0, hc0, rfl⟩ := List.mem_map.1 hc
    obtain ⟨g1, g2⟩ := h1 col0 hc0
    refine ⟨fun v hv => ?_, by rw [List.length_map]; exact g2⟩
    obtain ⟨v0, _, rfl⟩ := List.mem_map.1 hv
    exact mdV_top h v0
end Go.Pl
/- Rows of own rows: one of them taken out, put back; given up. -/
namespace Go.Sx
open Go.RowKit
mutual
def movS (i n : Nat) : SV → SV
  | .o j => bif Nat.beq j i then .o n else .o j
  | .agg cs => .agg (movL i n cs)
  | .tup cs => .tup (movL i n cs)
  | .fn f a c => .fn f (movL i n a) (movL i n c)
  | .ifc t y => .ifc t (movS i n y)
  | .v x => .v x
  | .bl b => .bl b
  | .p j off => .p j off
  | .q j off => .q j off
  | .m j => .m j
  | .sl j off len cap => .sl j off len cap
  | .x j p => .x j p
  | .xp j p sz k c => .xp j p sz k c
  | .qk j sz k c => .qk j sz k c
def movL (i n : Nat) : List SV → List SV
  | [] => []
  | x :: r => movS i n x :: movL i n r
end
mutual
theorem den_mov (i n : Nat) (e : Env) (h : e.row n = e.row i) : ∀ s, den e (movS i n s) = den e s
  | .o j => by
    simp only [movS]
    cases hb : Nat.beq j i with
    | true => rw [cond_true, den, den, h, Nat.eq_of_beq_eq_true hb]
    | false => rfl
  | .agg cs => by simp only [movS, den, denL_mov i n e h cs]
  | .tup cs => by simp only [movS, den, denL_mov i n e h cs]
  | .fn f a c => by simp only [movS, den, denL_mov i n e h a, denL_mov i n e h c]
  | .ifc t y => by simp only [movS, den, den_mov i n e h y]
  | .v x => rfl
  | .bl b => rfl
  | .p j off => rfl
  | .q j off => rfl
  | .m j => rfl
  | .sl j off len cap => rfl
  | .x j p => rfl
  | .xp j p sz k c => rfl
  | .qk j sz k c => rfl
theorem denL_mov (i n : Nat) (e : Env) (h : e.row n = e.row i) : ∀ l, denL e (movL i n l) = denL e l
  | [] => rfl
  | x :: r => by simp only [movL, denL, den_mov i n e h x, denL_mov i n e h r]
end
mutual
theorem ws_mov (i n m : Nat) (h : n < m) : ∀ s, ws m s → ws m (movS i n s)
  | .o j, hs => by
    simp only [movS]
    cases Nat.beq j i with
    | true => exact h
    | false => exact hs
  | .agg cs, hs => wsL_mov i n m h cs hs
  | .tup cs, hs => wsL_mov i n m h cs hs
  | .fn f a c, hs => ⟨wsL_mov i n m h a hs.1, wsL_mov i n m h c hs.2⟩
  | .ifc t y, hs => ws_mov i n m h y hs
  | .v x, _ => trivial
  | .bl b, _ => trivial
  | .p j off, hs => hs
  | .q j off, hs => hs
  | .m j, hs => hs
  | .sl j off len cap, hs => hs
  | .x j p, hs => hs
  | .xp j p sz k c, hs => hs
  | .qk j sz k c, hs => hs
theorem wsL_mov (i n m : Nat) (h : n < m) : ∀ l, wsL m l → wsL m (movL i n l)
  | [], _ => trivial
  | x :: r, hs => ⟨ws_mov i n m h x hs.1, wsL_mov i n m h r hs.2⟩
end
def movT (i n : Nat) : List (Nat × SV) → List (Nat × SV)
  | [] => []
  | (t, s) :: r => (t, movS i n s) :: movT i n r
theorem lk_movT (i n : Nat) : ∀ (l : List (Nat × SV)) {t : Nat} {s : SV}, lk (movT i n l) t = some s → ∃ s0, lk l t = some s0 ∧ s = movS i n s0
  | [], t, s, h => by cases h
  | (u, x) :: r, t, s, h => by
    simp only [movT, lk] at h ⊢
    cases hb : Nat.beq u t with
    | true =>
      rw [hb] at h
      simp only [cond_true, Option.some.injEq] at h
      exact ⟨x, rfl, h.symm⟩
    | false =>
      rw [hb] at h
      exact lk_movT i n r h
def movO (i n : Nat) : HO → HO
  | .cells xs T => .cells (movL i n xs) T
  | .row T sz k xs => .row T sz k (movL i n xs)
  | .mp ag ks kl c => .mp ag ks kl (c.map (movL i n))
  | x => x
theorem SatH.reown {F : Mem → Prop} (hF : Mono F) {w0 : Base} {h h' : List HO} {e e' : Env} {w : World} (S : SatH F w0 h e w) (hag : agree h.length e e') (hlen : h.length ≤ h'.length)
    (hsat : (mem w e h).le (mem w e' h') → ∀ (i : Nat) (ho : HO), h'[i]? = some ho → ho.sat e' (mem w e' h') i w) (hws : ∀ (i : Nat) (ho : HO), h'[i]? = some ho → ho.ws h'.length)
    (hone : ∀ (i j : Nat) (ho ho' : HO) (b : Nat), h'[i]? = some ho → h'[j]? = some ho' → ho.own e' i b → ho'.own e' j b → i = j)
    (hown : ∀ (i : Nat) (ho : HO) (b : Nat), h'[i]? = some ho → ho.own e' i b → owned e h b) : SatH F w0 h' e' w := by
  have hM : (mem w e h).le (mem w e' h') := by
    intro b o hb
    unfold mem at hb ⊢
    split at hb
    · cases hb
    · rename_i hno
      rw [if_neg, hb]
      rintro ⟨i, x, hx, hb2⟩
      exact hno (hown i x b hx hb2)
  refine ⟨S.os, S.tape, S.output, hsat hM, hws, hone, hF _ _ hM S.fact, fun i ho b hi hb => ?_, fun b hb => ?_, hag.2.trans S.ez, Nat.le_trans S.pin.1 hlen, fun i hi => ?_⟩
  · obtain ⟨j, y, h1, h2⟩ := hown i ho b hi hb
    rw [hag.2]
    exact S.nz j y b h1 h2
  · rw [hag.2] at hb
    exact S.zlt b hb
  · obtain ⟨a1, a2, a3⟩ := hag.1 i (Nat.lt_of_lt_of_le hi S.pin.1)
    obtain ⟨b1, b2, b3⟩ := S.pin.2 i hi
    exact ⟨a1.trans b1, a2.trans b2, a3.trans b3⟩
theorem inH_none (k : Nat) : inH none k := fun m hk => by cases hk
theorem inH_ne {k m q : Nat} (h : inH (some (k, m)) q) : q ≠ k := fun e => h m (by rw [e])
theorem inH_of {k m q : Nat} (h : q ≠ k) : inH (some (k, m)) q := fun y hy => by
  simp only [Option.some.injEq, Prod.mk.injEq] at hy
  exact h hy.1.symm
theorem get_set_snoc {h : List HO} {i j : Nat} {x y z : HO} (hi : i < h.length) (hg : (h.set i x ++ [y])[j]? = some z) : (j = h.length ∧ z = y) ∨ (j = i ∧ z = x) ∨ (j ≠ i ∧ j < h.length ∧ h[j]? = some z) := by
  rw [List.getElem?_append] at hg
  split at hg
  · rename_i hlt
    rw [List.length_set] at hlt
    by_cases hji : j = i
    · subst hji
      simp [hi] at hg
      exact .inr (.inl ⟨rfl, hg.symm⟩)
    · exact .inr (.inr ⟨hji, hlt, set_get hji hg⟩)
  · rename_i hge
    rw [List.length_set] at hge hg
    cases hk : j - h.length with
    | zero =>
      rw [hk] at hg
      simp only [List.getElem?_cons_zero, Option.some.injEq] at hg
      exact .inl ⟨by omega, hg.symm⟩
    | succ q => rw [hk] at hg; simp at hg
theorem SatH.focus {F : Mem → Prop} (hF : Mono F) {w0 : Base} {h : List HO} {e : Env} {w : World} (S : SatH F w0 h e w) {i k : Nat} {T0 T1 : TypeId} {sz n : Nat} {c : Nat → Nat × (Nat → Nat → Cell)} (hi : h[i]? = some (.tbl T0 T1 sz n c none)) (hk : k < n) :
    SatH F w0 (h.set i (.tbl T0 T1 sz n c (some (k, h.length))) ++ [.rowc T1 sz (c k).1 (.fn (c k).2)]) (e.setR h.length (e.val i [(1, k, 0)])) w := by
  have hlt := (List.getElem?_eq_some_iff.1 hi).1
  have hag := agree_setR e h.length (e.val i [(1, k, 0)])
  have hrow : (e.setR h.length (e.val i [(1, k, 0)])).row h.length = e.val i [(1, k, 0)] := by simp [Env.setR]
  have hri : (e.setR h.length (e.val i [(1, k, 0)])).row i = e.row i := (hag.1 i hlt).2.1
  obtain ⟨⟨hds, d1, d2, d3⟩, d4, d5, d6⟩ := S.sat i _ hi
  have ownT : ∀ b, (HO.tbl T0 T1 sz n c (some (k, h.length))).own (e.setR h.length (e.val i [(1, k, 0)])) i b → (HO.tbl T0 T1 sz n c none).own e i b ∧ (e.val i [(1, k, 0)]).ownBlock ≠ some b := by
    intro b hb
    simp only [HO.own, hri] at hb
    rcases hb with hb | ⟨q, hq, hiq, hb⟩
    · exact ⟨.inl hb, fun hh => d6 k b hk (inH_none k) hh hb⟩
    · exact ⟨.inr ⟨q, hq, inH_none q, hb⟩, fun hh => inH_ne hiq (d5 q k b hq hk (inH_none q) (inH_none k) hb hh)⟩
  refine S.reown hF hag (by simp) (fun hM j x hx => ?_) (fun j x hx => ?_) (fun j1 j2 x1 x2 b hx1 hx2 hb1 hb2 => ?_) (fun j x b hx hb => ?_)
  · rcases get_set_snoc hlt hx with ⟨rfl, rfl⟩ | ⟨rfl, rfl⟩ | ⟨_, hj, hx0⟩
    · obtain ⟨vals, g1, g2, g3⟩ := d4 k hk (inH_none k)
      simp only [HO.sat, hrow]
      exact ⟨vals, g1, g2, repRow_mono (Mem.sub_mono hM _) g3⟩
    · simp only [HO.sat, hri]
      refine ⟨⟨hds, d1, d2, fun q hq => ?_⟩, fun q hq hiq => ?_, fun q q' b hq hq' _ _ h1 h2 => d5 q q' b hq hq' (inH_none q) (inH_none q') h1 h2, fun q b hq _ h1 => d6 q b hq (inH_none q) h1⟩
      · rw [d3 q hq]
        by_cases hqk : q = k
        · subst hqk; simp only [thd, if_true, hrow]
        · simp only [thd, if_neg hqk]; rfl
      · obtain ⟨vals, g1, g2, g3⟩ := d4 q hq (inH_none q)
        exact ⟨vals, g1, g2, repRow_mono (Mem.sub_mono hM _) g3⟩
    · exact HO.sat_keep hM hj hag (S.ws j x hx0) (S.sat j x hx0) fun _ _ => rfl
  · rw [List.length_append, List.length_set, List.length_singleton]
    rcases get_set_snoc hlt hx with ⟨rfl, rfl⟩ | ⟨rfl, rfl⟩ | ⟨_, hj, hx0⟩
    · trivial
    · intro q m hq
      simp only [Option.some.injEq, Prod.mk.injEq] at hq
      omega
    · exact HO.ws_mono (Nat.le_succ _) (S.ws j x hx0)
  · have rowOwn : ∀ b, (HO.rowc T1 sz (c k).1 (.fn (c k).2)).own (e.setR h.length (e.val i [(1, k, 0)])) h.length b → (e.val i [(1, k, 0)]).ownBlock = some b := by
      intro b hb
      simp only [HO.own, hrow] at hb
      exact hb
    have oldOwn : ∀ (j : Nat) (x : HO), j < h.length → x.own (e.setR h.length (e.val i [(1, k, 0)])) j b → x.own e j b := fun j x hj hb => by
      rw [HO.own_agree hj hag] at hb; exact hb
    have inner : (e.val i [(1, k, 0)]).ownBlock = some b → (HO.tbl T0 T1 sz n c none).own e i b := fun hb => .inr ⟨k, hk, inH_none k, hb⟩
    rcases get_set_snoc hlt hx1 with ⟨rfl, rfl⟩ | ⟨rfl, rfl⟩ | ⟨n1, hj1, hy1⟩
    · rcases get_set_snoc hlt hx2 with ⟨rfl, rfl⟩ | ⟨rfl, rfl⟩ | ⟨n2, hj2, hy2⟩
      · rfl
      · exact absurd (rowOwn b hb1) (ownT b hb2).2
      · exact absurd (S.one j2 i x2 _ b hy2 hi (oldOwn j2 x2 hj2 hb2) (inner (rowOwn b hb1))) n2
    · rcases get_set_snoc hlt hx2 with ⟨rfl, rfl⟩ | ⟨rfl, rfl⟩ | ⟨n2, hj2, hy2⟩
      · exact absurd (rowOwn b hb2) (ownT b hb1).2
      · rfl
      · exact absurd (S.one j2 j1 x2 _ b hy2 hi (oldOwn j2 x2 hj2 hb2) (ownT b hb1).1) n2
    · rcases get_set_snoc hlt hx2 with ⟨rfl, rfl⟩ | ⟨rfl, rfl⟩ | ⟨n2, hj2, hy2⟩
      · exact absurd (S.one j1 i x1 _ b hy1 hi (oldOwn j1 x1 hj1 hb1) (inner (rowOwn b hb2))) n1
      · exact absurd (S.one j1 j2 x1 _ b hy1 hi (oldOwn j1 x1 hj1 hb1) (ownT b hb2).1) n1
      · exact S.one j1 j2 x1 x2 b hy1 hy2 (oldOwn j1 x1 hj1 hb1) (oldOwn j2 x2 hj2 hb2)
  · rcases get_set_snoc hlt hx with ⟨rfl, rfl⟩ | ⟨rfl, rfl⟩ | ⟨_, hj, hx0⟩
    · simp only [HO.own, hrow] at hb
      exact ⟨i, _, hi, .inr ⟨k, hk, inH_none k, hb⟩⟩
    · exact ⟨j, _, hi, (ownT b hb).1⟩
    · rw [HO.own_agree hj hag] at hb
      exact ⟨j, x, hx0, hb⟩
theorem FOk.focus {P : Program} {m : Nat} {fn : Func} {Q : SV → List HO → Prop} {its : List It} {tm : List (Nat × SV)} {h : List HO} (i k : Nat) {T0 T1 : TypeId} {sz n : Nat} {c : Nat → Nat × (Nat → Nat → Cell)} (hi : h[i]? = some (.tbl T0 T1 sz n c none)) (hk : k < n)
    (hx : FOkM P m fn Q its ⟨tm, h.set i (.tbl T0 T1 sz n c (some (k, h.length))) ++ [.rowc T1 sz (c k).1 (.fn (c k).2)]⟩) : FOkM P m fn Q its ⟨tm, h⟩ := by
  intro F hF w0 hw0 e a w S T0'
  have hag := agree_setR e h.length (e.val i [(1, k, 0)])
  refine hx F hF w0 hw0 _ a w (S.focus hF hi hk) ⟨T0'.size, T0'.defers, fun t s hs => ?_, fun t s hs => ?_⟩
  · rw [T0'.get t s hs, den_agree hag s (T0'.wsc t s hs)]
  · show ws (h.set i (HO.tbl T0 T1 sz n c (some (k, h.length))) ++ [HO.rowc T1 sz (c k).1 (.fn (c k).2)]).length s
    rw [List.length_append, List.length_set]
    exact ws_mono (Nat.le_add_right _ _) s (T0'.wsc t s hs)
def updR (c : Nat → Nat × (Nat → Nat → Cell)) (k n2 : Nat) (c2 : Nat → Nat → Cell) : Nat → Nat × (Nat → Nat → Cell) := fun q => bif Nat.beq q k then (n2, c2) else c q
theorem updR_eq (c : Nat → Nat × (Nat → Nat → Cell)) (k n2 : Nat) (c2 : Nat → Nat → Cell) : updR c k n2 c2 k = (n2, c2) := by rw [updR, Nat.beq_refl]; rfl
theorem updR_ne (c : Nat → Nat × (Nat → Nat → Cell)) (k n2 : Nat) (c2 : Nat → Nat → Cell) {q : Nat} (h : q ≠ k) : updR c k n2 c2 q = c q := by
  have hb : Nat.beq q k = false := by
    rw [Bool.eq_false_iff]
    intro hh
    exact h (Nat.eq_of_beq_eq_true hh)
  rw [updR, hb]; rfl
def putV (f : Path → Value) (k : Nat) (v : Value) : Path → Value := fun p => if p = [(1, k, 0)] then v else f p
theorem putV_eq (f : Path → Value) (k : Nat) (v : Value) : putV f k v [(1, k, 0)] = v := by simp [putV]
theorem putV_ne (f : Path → Value) (v : Value) {k q : Nat} (h : q ≠ k) : putV f k v [(1, q, 0)] = f [(1, q, 0)] := by simp [putV, h]
theorem get_gone {h : List HO} {m j : Nat} {x : HO} (hx : (h.set m .gone)[j]? = some x) : (j = m ∧ x = .gone) ∨ (j ≠ m ∧ h[j]? = some x) := by
  by_cases hjm : j = m
  · subst hjm
    have hlt : j < h.length := by
      have := (List.getElem?_eq_some_iff.1 hx).1
      simpa using this
    simp [hlt] at hx
    exact .inl ⟨rfl, hx.symm⟩
  · exact .inr ⟨hjm, set_get hjm hx⟩
theorem SatH.unfocus {F : Mem → Prop} (hF : Mono F) {w0 : Base} {h : List HO} {e : Env} {w : World} (S : SatH F w0 h e w) {i m k : Nat} {T0 T1 : TypeId} {sz n n2 : Nat} {c : Nat → Nat × (Nat → Nat → Cell)} {c2 : Ct} (hi : h[i]? = some (.tbl T0 T1 sz n c (some (k, m)))) (hm : h[m]? = some (.rowc T1 sz n2 c2)) (him : i ≠ m) (hf : ∀ p, (putV (e.val i) k (e.row m) p).oneCell' = true) :
    SatH F w0 ((h.set m .gone).set i .gone ++ [.tbl T0 T1 sz n (updR c k n2 c2.at) none]) ((e.setR h.length (e.row i)).setV h.length (putV (e.val i) k (e.row m)) hf) w := by
  have hlt := (List.getElem?_eq_some_iff.1 hi).1
  have hltm := (List.getElem?_eq_some_iff.1 hm).1
  have hag : agree h.length e ((e.setR h.length (e.row i)).setV h.length (putV (e.val i) k (e.row m)) hf) := (agree_setR e h.length (e.row i)).trans (agree_setV (e.setR h.length (e.row i)) h.length _ hf) (Nat.le_refl _)
  have hrow : ((e.setR h.length (e.row i)).setV h.length (putV (e.val i) k (e.row m)) hf).row h.length = e.row i := by simp [Env.setR, Env.setV]
  have hval : ((e.setR h.length (e.row i)).setV h.length (putV (e.val i) k (e.row m)) hf).val h.length = putV (e.val i) k (e.row m) := by simp [Env.setV]
  obtain ⟨⟨hds, d1, d2, d3⟩, d4, d5, d6⟩ := S.sat i _ hi
  obtain ⟨vals, v1, v2, v3⟩ := S.sat m _ hm
  have mOwn : ∀ b, (e.row m).ownBlock = some b → (HO.rowc T1 sz n2 c2).own e m b := fun b hb => hb
  have apart : ∀ b, (e.row m).ownBlock = some b → ¬ (HO.tbl T0 T1 sz n c (some (k, m))).own e i b := fun b hb hh => him (S.one i m _ _ b hi hm hh hb)
  have hlen : (h.set m HO.gone).length = h.length := List.length_set
  have get3 : ∀ (j : Nat) (x : HO), ((h.set m HO.gone).set i HO.gone ++ [HO.tbl T0 T1 sz n (updR c k n2 c2.at) none])[j]? = some x → (j = h.length ∧ x = .tbl T0 T1 sz n (updR c k n2 c2.at) none) ∨ x = .gone ∨ (j ≠ i ∧ j ≠ m ∧ j < h.length ∧ h[j]? = some x) := by
    intro j x hx
    rcases get_set_snoc (by rw [hlen]; exact hlt) hx with ⟨h1, h2⟩ | ⟨_, h2⟩ | ⟨h1, h2, h3⟩
    · exact .inl ⟨by rw [h1, hlen], h2⟩
    · exact .inr (.inl h2)
    · rcases get_gone h3 with ⟨_, h4⟩ | ⟨h4, h5⟩
      · exact .inr (.inl h4)
      · exact .inr (.inr ⟨h1, h4, by rw [hlen] at h2; exact h2, h5⟩)
  have newOwn : ∀ b, (HO.tbl T0 T1 sz n (updR c k n2 c2.at) none).own ((e.setR h.length (e.row i)).setV h.length (putV (e.val i) k (e.row m)) hf) h.length b → (HO.tbl T0 T1 sz n c (some (k, m))).own e i b ∨ (e.row m).ownBlock = some b := by
    intro b hb
    simp only [HO.own, hrow, hval] at hb
    rcases hb with hb | ⟨q, hq, _, hb⟩
    · exact .inl (.inl hb)
    · by_cases hqk : q = k
      · subst hqk; rw [putV_eq] at hb; exact .inr hb
      · rw [putV_ne _ _ hqk] at hb; exact .inl (.inr ⟨q, hq, inH_of hqk, hb⟩)
  refine S.reown hF hag (by simp) (fun hM j x hx => ?_) (fun j x hx => ?_) (fun j1 j2 x1 x2 b hx1 hx2 hb1 hb2 => ?_) (fun j x b hx hb => ?_)
  · rcases get3 j x hx with ⟨rfl, rfl⟩ | rfl | ⟨_, _, hj, hx0⟩
    · simp only [HO.sat, hrow, hval]
      refine ⟨⟨hds, d1, d2, fun q hq => ?_⟩, fun q hq _ => ?_, fun q q' b hq hq' _ _ h1 h2 => ?_, fun q b hq _ h1 => ?_⟩
      · rw [d3 q hq]
        by_cases hqk : q = k
        · subst hqk; simp only [thd, if_true, hval, putV_eq]
        · simp only [thd, if_neg hqk, hval, putV_ne _ _ hqk]
      · by_cases hqk : q = k
        · subst hqk
          rw [putV_eq, updR_eq]
          exact ⟨vals, v1, v2, repRow_mono (Mem.sub_mono hM _) v3⟩
        · rw [putV_ne _ _ hqk, updR_ne _ _ _ _ hqk]
          obtain ⟨us, g1, g2, g3⟩ := d4 q hq (inH_of hqk)
          exact ⟨us, g1, g2, repRow_mono (Mem.sub_mono hM _) g3⟩
      · by_cases hqk : q = k
        · by_cases hqk' : q' = k
          · rw [hqk, hqk']
          · subst hqk
            rw [putV_eq] at h1
            rw [putV_ne _ _ hqk'] at h2
            exact absurd (.inr ⟨q', hq', inH_of hqk', h2⟩) (apart b h1)
        · rw [putV_ne _ _ hqk] at h1
          by_cases hqk' : q' = k
          · subst hqk'
            rw [putV_eq] at h2
            exact absurd (.inr ⟨q, hq, inH_of hqk, h1⟩) (apart b h2)
          · rw [putV_ne _ _ hqk'] at h2
            exact d5 q q' b hq hq' (inH_of hqk) (inH_of hqk') h1 h2
      · by_cases hqk : q = k
        · subst hqk
          rw [putV_eq] at h1
          exact fun hh => apart b h1 (.inl hh)
        · rw [putV_ne _ _ hqk] at h1
          exact d6 q b hq (inH_of hqk) h1
    · trivial
    · exact HO.sat_keep hM hj hag (S.ws j x hx0) (S.sat j x hx0) fun _ _ => rfl
  · rw [List.length_append, List.length_set, hlen, List.length_singleton]
    rcases get3 j x hx with ⟨rfl, rfl⟩ | rfl | ⟨_, _, hj, hx0⟩
    · intro q m hq; cases hq
    · trivial
    · exact HO.ws_mono (Nat.le_succ _) (S.ws j x hx0)
  · have oldOwn : ∀ (j : Nat) (x : HO), j < h.length → x.own ((e.setR h.length (e.row i)).setV h.length (putV (e.val i) k (e.row m)) hf) j b → x.own e j b := fun j x hj hb => by
      rw [HO.own_agree hj hag] at hb; exact hb
    rcases get3 j1 x1 hx1 with ⟨rfl, rfl⟩ | rfl | ⟨n1, n2, hj1, hy1⟩
    · rcases get3 j2 x2 hx2 with ⟨rfl, rfl⟩ | rfl | ⟨n3, n4, hj2, hy2⟩
      · rfl
      · exact hb2.elim
      · rcases newOwn b hb1 with hh | hh
        · exact absurd (S.one j2 i x2 _ b hy2 hi (oldOwn j2 x2 hj2 hb2) hh) n3
        · exact absurd (S.one j2 m x2 _ b hy2 hm (oldOwn j2 x2 hj2 hb2) (mOwn b hh)) n4
    · exact hb1.elim
    · rcases get3 j2 x2 hx2 with ⟨rfl, rfl⟩ | rfl | ⟨n3, n4, hj2, hy2⟩
      · rcases newOwn b hb2 with hh | hh
        · exact absurd (S.one j1 i x1 _ b hy1 hi (oldOwn j1 x1 hj1 hb1) hh) n1
        · exact absurd (S.one j1 m x1 _ b hy1 hm (oldOwn j1 x1 hj1 hb1) (mOwn b hh)) n2
      · exact hb2.elim
      · exact S.one j1 j2 x1 x2 b hy1 hy2 (oldOwn j1 x1 hj1 hb1) (oldOwn j2 x2 hj2 hb2)
  · rcases get3 j x hx with ⟨rfl, rfl⟩ | rfl | ⟨_, _, hj, hx0⟩
    · rcases newOwn b hb with hh | hh
      · exact ⟨i, _, hi, hh⟩
      · exact ⟨m, _, hm, mOwn b hh⟩
    · exact hb.elim
    · rw [HO.own_agree hj hag] at hb
      exact ⟨j, x, hx0, hb⟩
theorem movO_conv {F : Mem → Prop} (hF : Mono F) {w0 : Base} {h : List HO} {e : Env} {w : World} (S : SatH F w0 h e w) (i n : Nat) (hn : n < h.length) (hv : e.row n = e.row i) : SatH F w0 (h.map (movO i n)) e w := by
  refine S.conv hF (h' := h.map (movO i n)) (by rw [List.length_map]) (fun j x' hx' => ?_)
  rw [List.getElem?_map] at hx'
  obtain ⟨x, hx, rfl⟩ := Option.map_eq_some_iff.1 hx'
  refine ⟨x, hx, ?_, ?_, ?_⟩
  · cases x <;> rfl
  · cases x with
    | cells xs T => intro hs; simp only [movO, HO.sat, denL_mov i _ _ hv] at hs ⊢; exact hs
    | row T sz k xs => intro hs; simp only [movO, HO.sat, denL_mov i _ _ hv] at hs ⊢; exact hs
    | mp ag ks kl c =>
      intro hs
      have hc : (c.map (movL i n)).den e kl.length = c.den e kl.length := Mc.den_map _ _ _ _ c fun xs _ => denL_mov i n e hv xs
      simp only [movO, HO.sat, hc] at hs ⊢
      exact hs
    | _ => exact fun hs => hs
  · cases x with
    | cells xs T => exact fun hs => wsL_mov i n _ hn xs hs
    | row T sz k xs => exact fun hs => wsL_mov i n _ hn xs hs
    | mp ag ks kl c => exact fun hs => Mc.ws_map _ _ (movL i n) c (fun xs _ => wsL_mov i n _ hn xs) hs
    | _ => exact fun hs => hs
theorem FOk.unfocus {P : Program} {m0 : Nat} {fn : Func} {Q : SV → List HO → Prop} {its : List It} {tm : List (Nat × SV)} {h : List HO} (i m k : Nat) {T0 T1 : TypeId} {sz n n2 : Nat} {c : Nat → Nat × (Nat → Nat → Cell)} {c2 : Ct} (hi : h[i]? = some (.tbl T0 T1 sz n c (some (k, m)))) (hm : h[m]? = some (.rowc T1 sz n2 c2)) (him : i ≠ m)
    (hx : FOkM P m0 fn Q its ⟨movT i h.length tm, ((h.set m .gone).set i .gone ++ [HO.tbl T0 T1 sz n (updR c k n2 c2.at) none]).map (movO i h.length)⟩) : FOkM P m0 fn Q its ⟨tm, h⟩ := by
  intro F hF w0 hw0 e a w S T0'
  have hf : ∀ p, (putV (e.val i) k (e.row m) p).oneCell' = true := by
    intro p
    unfold putV
    split
    · obtain ⟨oa, n', cap, hv⟩ := row_slice S.q (i := m) (by rw [hm]; rfl)
      rw [hv]; rfl
    · exact e.one i p
  have hlt := (List.getElem?_eq_some_iff.1 hi).1
  have hag : agree h.length e ((e.setR h.length (e.row i)).setV h.length (putV (e.val i) k (e.row m)) hf) := (agree_setR e h.length (e.row i)).trans (agree_setV (e.setR h.length (e.row i)) h.length _ hf) (Nat.le_refl _)
  have hl : ((h.set m HO.gone).set i HO.gone ++ [HO.tbl T0 T1 sz n (updR c k n2 c2.at) none]).length = h.length + 1 := by simp
  have hv : ((e.setR h.length (e.row i)).setV h.length (putV (e.val i) k (e.row m)) hf).row h.length = ((e.setR h.length (e.row i)).setV h.length (putV (e.val i) k (e.row m)) hf).row i := by
    rw [(hag.1 i hlt).2.1]; simp [Env.setR, Env.setV]
  have S2 := movO_conv hF (S.unfocus hF hi hm him hf) i h.length (by rw [hl]; exact Nat.lt_succ_self _) hv
  refine hx F hF w0 hw0 _ a w S2 ⟨T0'.size, T0'.defers, fun t s hs => ?_, fun t s hs => ?_⟩
  · obtain ⟨s0, q1, rfl⟩ := lk_movT i _ tm hs
    rw [den_mov i _ _ hv, T0'.get t s0 q1, den_agree hag s0 (T0'.wsc t s0 q1)]
  · obtain ⟨s0, q1, rfl⟩ := lk_movT i _ tm hs
    show ws (((h.set m HO.gone).set i HO.gone ++ [HO.tbl T0 T1 sz n (updR c k n2 c2.at) none]).map (movO i h.length)).length _
    rw [List.length_map, hl]
    exact ws_mov i _ _ (Nat.lt_succ_self _) s0 (ws_mono (Nat.le_succ _) s0 (T0'.wsc t s0 q1))
theorem FOk.newT {P : Program} {m : Nat} {fn : Func} {Q : SV → List HO → Prop} {its : List It} {tm : List (Nat × SV)} {h : List HO} (i : Nat) {T0 : TypeId} {c0 : Ct} (T1 : TypeId) (sz : Nat) (c : Nat → Nat × (Nat → Nat → Cell)) (hi : h[i]? = some (.rowc T0 1 0 c0))
    (hx : FOkM P m fn Q its ⟨tm, h.set i (.tbl T0 T1 sz 0 c none)⟩) : FOkM P m fn Q its ⟨tm, h⟩ := by
  intro F hF w0 hw0 e a w S T0'
  have hlt := (List.getElem?_eq_some_iff.1 hi).1
  have S2 := S.conv hF (h' := h.set i (.tbl T0 T1 sz 0 c none)) (by simp) (fun j x' hx' => by
    by_cases hji : j = i
    · subst hji
      simp [hlt] at hx'
      subst hx'
      refine ⟨_, hi, ?_, ?_, fun _ k q hq => by cases hq⟩
      · funext b
        simp only [HO.own, eq_iff_iff]
        constructor
        · rintro (h1 | ⟨k, hk, _⟩)
          · exact h1
          · omega
        · exact .inl
      · rintro ⟨vals, v1, v2, _⟩
        exact ⟨⟨vals, v1, v2, fun k hk => by omega⟩, fun k hk => by omega, fun k k' b hk => by omega, fun k b hk => by omega⟩
    · exact ⟨x', set_get hji hx', rfl, fun hs => hs, fun hs => hs⟩)
  refine hx F hF w0 hw0 e a w S2 ⟨T0'.size, T0'.defers, T0'.get, fun t s hs => ?_⟩
  show ws (h.set i (HO.tbl T0 T1 sz 0 c none)).length s
  rw [List.length_set]
  exact T0'.wsc t s hs
theorem SatH.frozenV {F : Mem → Prop} {w0 : Base} {h : List HO} {e : Env} {w : World} (S : SatH F w0 h e w) {j : Nat} {ho : HO} (hj : h[j]? = some ho) {v : Value} (hown : ∀ b, v.ownBlock = some b → ho.own e j b) {T : TypeId} {sz n : Nat} {c : Nat → Nat → Cell} {vals : List Value}
    (h1 : w.ownsRow 0 T sz v n vals) (h2 : repRow ((mem w e (h.set j .gone)).sub e.z) sz n c vals) : repV ((mem w e (h.set j .gone)).sub e.z) v (.s false sz n c) := by
  obtain ⟨hl, h1⟩ := h1
  rcases h1 with ⟨hv, hn⟩ | ⟨g, cap, cur, hv, _, hg, hnc, _, hcs, ht⟩
  · subst hn
    exact repV_row none 0 hv (Nat.le_refl _) (.inl rfl) h2
  · refine repV_row (some ⟨g, 0, none⟩) cap hv hnc (.inr ⟨_, rfl, fun d u hd hu => ?_⟩) h2
    have ho := hown g (by rw [hv]; rfl)
    have hb : ((mem w e (h.set j .gone)).sub e.z) g = some (.cells cur T (0, 0)) := by
      unfold Mem.sub
      rw [if_neg (S.nz j _ g hj ho)]
      unfold mem
      rw [if_neg (owned_gone S hj ho)]
      exact hg
    rw [Addr.add_lit]
    unfold Mem.cell?
    simp only [hb]
    rw [← ht, List.getElem?_take, if_pos hd] at hu
    simpa using hu
theorem FOk.frzTb {P : Program} {m : Nat} {fn : Func} {Q : SV → List HO → Prop} {k : List It} {tm : List (Nat × SV)} {h : List HO} (i : Nat) {T0' T1 : TypeId} {sz n : Nat} {c : Nat → Nat × (Nat → Nat → Cell)} (hi : h[i]? = some (.tbl T0' T1 sz n c none))
    (hk : FOkM P m fn Q k ⟨frzT i h.length tm, (h.set i .gone ++ [HO.ext false (Cell.s false 1 n fun q _ => .s false sz (c q).1 (c q).2)]).map (frzO i h.length)⟩) : FOkM P m fn Q k ⟨tm, h⟩ := by
  intro F hF w0 hw0 e a w S T0
  have hlt := (List.getElem?_eq_some_iff.1 hi).1
  obtain ⟨S1, hle⟩ := S.drop hF i hlt
  obtain ⟨⟨hds, d1, d2, d3⟩, d4, d5, d6⟩ := S.sat i _ hi
  have hrow : repRow ((mem w e (h.set i .gone)).sub e.z) 1 n (fun q _ => Cell.s false sz (c q).1 (c q).2) hds := by
    intro q hq j hj
    obtain ⟨vals, g1, g2, g3⟩ := d4 q hq (inH_none q)
    refine ⟨_, by rw [show q * 1 + j = q by omega]; exact d3 q hq, ?_⟩
    exact S.frozenV hi (fun b hb => .inr ⟨q, hq, inH_none q, hb⟩) g1 (repRow_mono (Mem.sub_mono hle _) g3)
  obtain ⟨f, f1, f2, f3⟩ := S.frozenV hi (fun b hb => .inl hb) d1 hrow
  have S2 := S1.newExt hF false (.s false 1 n fun q _ => .s false sz (c q).1 (c q).2) f f1 (by simpa using f3)
  rw [List.length_set] at S2
  have hag := agree_setV e h.length f f1
  have hv : (e.setV h.length f f1).val h.length [] = (e.setV h.length f f1).row i := by
    have : (e.setV h.length f f1).val h.length = f := by simp [Env.setV]
    rw [this, f2]; rfl
  have hl : (h.set i HO.gone ++ [HO.ext false (Cell.s false 1 n fun q _ => .s false sz (c q).1 (c q).2)]).length = h.length + 1 := by simp
  have S3 := S2.conv hF (h' := (h.set i HO.gone ++ [HO.ext false (Cell.s false 1 n fun q _ => .s false sz (c q).1 (c q).2)]).map (frzO i h.length)) (by rw [List.length_map]) (fun j x' hx' => by
    rw [List.getElem?_map] at hx'
    obtain ⟨x, hx, rfl⟩ := Option.map_eq_some_iff.1 hx'
    refine ⟨x, hx, ?_, ?_, ?_⟩
    · cases x <;> rfl
    · cases x with
      | cells xs T => intro hs; simp only [frzO, HO.sat, denL_frz i _ _ hv] at hs ⊢; exact hs
      | row T sz k xs => intro hs; simp only [frzO, HO.sat, denL_frz i _ _ hv] at hs ⊢; exact hs
      | _ => exact fun hs => hs
    · cases x with
      | cells xs T => exact fun hs => wsL_frz i h.length _ (by rw [hl]; exact Nat.lt_succ_self _) xs hs
      | row T sz k xs => exact fun hs => wsL_frz i h.length _ (by rw [hl]; exact Nat.lt_succ_self _) xs hs
      | _ => exact fun hs => hs)
  refine hk F hF w0 hw0 _ a w S3 ⟨T0.size, T0.defers, fun t s hs => ?_, fun t s hs => ?_⟩
  · obtain ⟨s0, q1, rfl⟩ := lk_frzT i _ tm hs
    rw [den_frz i _ _ hv, T0.get t s0 q1, den_agree hag s0 (T0.wsc t s0 q1)]
  · obtain ⟨s0, q1, rfl⟩ := lk_frzT i _ tm hs
    show ws ((h.set i HO.gone ++ [HO.ext false (Cell.s false 1 n fun q _ => .s false sz (c q).1 (c q).2)]).map (frzO i h.length)).length _
    rw [List.length_map, hl]
    exact ws_frz i _ _ (Nat.lt_succ_self _) s0 (ws_mono (Nat.le_succ _) s0 (T0.wsc t s0 q1))
end Go.Sx
namespace Go.Sx
open Go.RowKit
end Go.Sx
/- Tables as own rows of own rows. -/
namespace Go.Pl
open Go.Sx
noncomputable def tC (l : List (List Nat)) : Nat → Nat × (Nat → Nat → Cell) := fun k => ((gT l k).length, cE (gT l k))
theorem updR_tC (l : List (List Nat)) (k : Nat) : updR (tC l) k (gT l k).length (Ct.at (.fn (cE (gT l k)))) = tC l := by
  funext q
  by_cases h : q = k
  · subst h; rw [updR_eq]; rfl
  · rw [updR_ne _ _ _ _ h]
end Go.Pl
namespace Go.Proofs.Ytlmjdcbhpffanaa
open Go.Sx Go.Pl
set_option linter.unusedVariables false
set_option maxRecDepth 100000
theorem toS (l : List (List Nat)) (K : List It → St → Prop) (R : SV → List HO → Prop) : W (xwp Try.prog X K57 [] 60 (fxOf Try.f37 [] [⟨[0,1,0,1,1], [4,3,0], []⟩]) [] [.at []] ⟨argsS 0 [.x 0 []], [.ext false (.s false 1 l.length (cT l))]⟩ K R) = W (K [.at [0,1,0,1,1], .blk 0, .at [1,1,1]] (St.mk [(4, .v (vi64 0)), (3, .o 0), (0, .x 1 [])] [.rowc 44 1 0 (.lit 1 []), .ext false (.s false 1 (List.length l) (cT l))])) := by kernel_rfl
theorem toR (l : List (List Nat)) (c : Nat → Nat × (Nat → Nat → Cell)) (m k M : Nat) (K : List It → St → Prop) (R : SV → List HO → Prop) : W (xwp Try.prog X K57 [] 60 (fxOf Try.f37 [] [⟨[0,1,0,1,1], [4,3,0], []⟩]) [] (.at [0,0,1,0,1,1] :: .rnd [0,0,1,0,1,1] M :: [.blk 0, .at [1,1,1]]) ⟨[(4, .v (.int .i64 (k : Int))), (3, .o 0), (0, .x 1 [])], [.tbl 44 56 4 m c none, .ext false (.s false 1 l.length (cT l))]⟩ K R) = W (bif decide ((↑k : Int) < (↑(List.length l) : Int)) then (∀ M : Mem, (0 : Int) ≤ (↑k : Int) ∧ (↑k : Int) < (↑(List.length l) : Int)) ∧ (∀ M : Mem, k < List.length l) ∧ (∀ M : Mem, k < List.length l) ∧ lE (List.length (gT l k)) (cE (gT l k)) fun (l_1 : List Nat) => (∀ M : Mem, (m + 1) * 24 ≤ 140737488355328 ∧ m + 1 ≤ 140737488355328) ∧ K [.rnd [0,0,1,0,1,1] M, .blk 0, .at [1,1,1]] (St.mk [(4, .v (vi64 (IntKind.wrap .i64 ((↑k : Int) + (1 : Int))))), (3, .o 0), (0, .x 1 [])] [HO.tbl 44 56 4 (m + 1) c (some (m, 2)), .ext false (.s false 1 (List.length l) (cT l)), .rowc 56 4 (List.length l_1) (.fn (cE l_1))]) else R (.o 0) [HO.tbl 44 56 4 m c none]) := by kernel_rfl
theorem to_loop (l : List (List Nat)) (hl : okT l) (Q : SV → List HO → Prop) (hq : Q (.o 0) [.tbl 44 56 4 l.length (tC l) none]) : ∀ (d k : Nat), k + d = l.length →
    FOk Try.prog Try.f37 Q (.rnd [0,0,1,0,1,1] (d + 1) :: [.blk 0, .at [1,1,1]]) ⟨[(4, .v (.int .i64 (k : Int))), (3, .o 0), (0, .x 1 [])], [.tbl 44 56 4 k (tC l) none, .ext false (.s false 1 l.length (cT l))]⟩
  | 0, k, hd => by
    refine FOk.rnd (run_sound hm 60 ((toR l (tC l) k k 0 _ _).mpr ⟨?_⟩))
    rw [cond_dec, if_neg (by omega)]
    rw [show k = l.length by omega]
    exact hq
  | d + 1, k, hd => by
    have hk : k < l.length := by omega
    have h1 := hl.2
    obtain ⟨g0, g1⟩ := hl.1 _ (gT_mem hk)
    refine FOk.rnd (run_sound hm 60 ((toR l (tC l) k k (d + 1) _ _).mpr ⟨?_⟩))
    rw [cond_dec, if_pos (by omega), wrap_inc _ (by omega)]
    refine And.intro (fun _ => by omega) (And.intro (fun _ => by omega) (And.intro (fun _ => by omega) ⟨⟨gT l k, rfl, IsC.refl _ _ _, by omega, g0, And.intro (fun _ => by omega) ?_⟩⟩))
    refine FOk.unfocus 0 2 k rfl rfl (by omega) ?_
    rw [updR_tC]
    exact FOk.norm (ks := [4,3,0]) (nl := []) (st' := ⟨[(4, .v (.int .i64 ((k + 1 : Nat) : Int))), (3, .o 0), (0, .x 1 [])], [.tbl 44 56 4 (k + 1) (tC l) none, .ext false (.s false 1 l.length (cT l))]⟩) (by kernel_rfl) (to_loop l hl Q hq d (k + 1) (by omega))
theorem bTo : Try.f37.body.isSome = true := by kernel_rfl
theorem nTo : Nat.ble [SV.x 0 []].length Try.f37.ntmps = true := by kernel_rfl
theorem to_ok (l : List (List Nat)) (hl : okT l) (Q : SV → List HO → Prop) (hq : Q (.o 0) [.tbl 44 56 4 l.length (tC l) none]) : FnOk Try.prog 37 [.x 0 []] [.ext false (.s false 1 l.length (cT l))] Q := by
  refine fn_of_ok Try.func37 bTo ?_ ?_
  · exact nTo
  refine run_sound hm 60 ((toS l _ _).mpr ⟨?_⟩)
  refine FOk.newT 0 56 4 (tC l) rfl ?_
  exact FOk.loop (l.length + 1) (by kernel_rfl) (to_loop l hl Q hq l.length 0 (by omega))
noncomputable def gTo : List SV → List HO → Option ((SV → List HO → Prop) → Prop)
  | [.x 0 []], [.ext false (.s false 1 n c)] => some fun Q => lT n c fun l => Q (.o 0) [.tbl 44 56 4 l.length (tC l) none]
  | _, _ => none
theorem gTo_ok (args : List SV) (h : List HO) (tr : (SV → List HO → Prop) → Prop) (Q : SV → List HO → Prop) (hc : gTo args h = some tr) (ht : tr Q) : FnOk Try.prog 37 args h Q := by
  unfold gTo at hc
  split at hc
  · simp only [Option.some.injEq] at hc
    subst hc
    obtain ⟨l, rfl, he, hl, hq⟩ := ht.h
    exact FnOk.ac (to_ok l hl Q hq) ⟨⟨rfl, rfl, rfl, rfl, he⟩, trivial⟩
  · cases hc
noncomputable def K102a : Con Try.prog := K57.add 37 gTo gTo_ok
end Go.Proofs.Ytlmjdcbhpffanaa
/- A sheet as own rows. -/
namespace Go.Proofs.Ytlmjdcbhpffanaa
open Go.Sx Go.Pl
set_option linter.unusedVariables false
set_option maxRecDepth 100000
theorem csoS (s : Sht) (K : List It → St → Prop) (R : SV → List HO → Prop) : W (xwp Try.prog X K102a [] 60 (fxOf Try.f21 [] []) [] [.at []] ⟨argsS 0 [.agg [.x 0 [], .x 1 [], .x 2 [], .x 3 []]], [.ext false (.s false 1 s.fx.length (cT s.fx)), .ext false (.s false 1 s.ad.length (cT s.ad)), .ext false (.s false 1 s.is.length (cT s.is)), .ext false (.s false 4 s.cp.length (cP s.cp))]⟩ K R) = W (lT s.1.length (cT s.1) fun (l : List (List Nat)) => lT s.2.length (cT s.2) fun (l_1 : List (List Nat)) => lT s.3.length (cT s.3) fun (l_2 : List (List Nat)) => (∀ M : Mem, (0 + List.length s.4) * 32 ≤ 140737488355328 ∧ 0 + List.length s.4 ≤ 140737488355328) ∧ (∀ M : Mem, 0 + 4 ≤ 4) ∧ R (.agg [.o 0, .o 1, .o 2, .o 3]) [HO.tbl 44 56 4 (List.length l) (tC l) none, HO.tbl 44 56 4 (List.length l_1) (tC l_1) none, HO.tbl 44 56 4 (List.length l_2) (tC l_2) none, .rowc 103 4 (0 + List.length s.4) (.app 0 (.lit 4 []) (.fn (cP s.4)))]) := by kernel_rfl
theorem bCso : Try.f21.body.isSome = true := by kernel_rfl
theorem nCso : Nat.ble [(.agg [.x 0 [], .x 1 [], .x 2 [], .x 3 []] : SV)].length Try.f21.ntmps = true := by kernel_rfl
theorem cso_ok (s : Sht) (hs : s.ok) (Q : SV → List HO → Prop) (hq : Q (.agg [.o 0, .o 1, .o 2, .o 3]) [.tbl 44 56 4 s.fx.length (tC s.fx) none, .tbl 44 56 4 s.ad.length (tC s.ad) none, .tbl 44 56 4 s.is.length (tC s.is) none, .rowc 103 4 s.cp.length (.fn (cP s.cp))]) : FnOk Try.prog 21 [.agg [.x 0 [], .x 1 [], .x 2 [], .x 3 []]] [.ext false (.s false 1 s.fx.length (cT s.fx)), .ext false (.s false 1 s.ad.length (cT s.ad)), .ext false (.s false 1 s.is.length (cT s.is)), .ext false (.s false 4 s.cp.length (cP s.cp))] Q := by
  have h0 : FnOk Try.prog 21 [.agg [.x 0 [], .x 1 [], .x 2 [], .x 3 []]] [.ext false (.s false 1 s.fx.length (cT s.fx)), .ext false (.s false 1 s.ad.length (cT s.ad)), .ext false (.s false 1 s.is.length (cT s.is)), .ext false (.s false 4 s.cp.length (cP s.cp))] (fun r h' => r = .agg [.o 0, .o 1, .o 2, .o 3] ∧ HEs h' [.tbl 44 56 4 s.fx.length (tC s.fx) none, .tbl 44 56 4 s.ad.length (tC s.ad) none, .tbl 44 56 4 s.is.length (tC s.is) none, .rowc 103 4 s.cp.length (.fn (cP s.cp))]) := by
    refine fn_of_ok Try.func21 bCso ?_ ?_
    · exact nCso
    have h1 := hs.c.2
    refine run_sound hm 60 ((csoS s _ _).mpr ⟨?_⟩)
    refine lT_mk hs.f (lT_mk hs.a (lT_mk hs.i (And.intro (fun _ => by omega) (And.intro (fun _ => by omega) ?_))))
    exact ⟨rfl, HE.refl _, HE.refl _, HE.refl _, ⟨rfl, rfl, Nat.zero_add _, fun k hk j hj => appC_ge _ _ _ (Nat.zero_le _)⟩, trivial⟩
  exact FnOk.mono (FnOk.eqv h0) fun r h' hh => by rw [hh.1, hh.2]; exact hq
noncomputable def gCso : List SV → List HO → Option ((SV → List HO → Prop) → Prop)
  | [.agg [.x 0 [], .x 1 [], .x 2 [], .x 3 []]], [.ext false (.s false 1 n0 c0), .ext false (.s false 1 n1 c1), .ext false (.s false 1 n2 c2), .ext false (.s false 4 n3 c3)] =>
    some fun Q => lS n0 n1 n2 n3 c0 c1 c2 c3 fun s => Q (.agg [.o 0, .o 1, .o 2, .o 3]) [.tbl 44 56 4 s.fx.length (tC s.fx) none, .tbl 44 56 4 s.ad.length (tC s.ad) none, .tbl 44 56 4 s.is.length (tC s.is) none, .rowc 103 4 s.cp.length (.fn (cP s.cp))]
  | _, _ => none
theorem gCso_ok (args : List SV) (h : List HO) (tr : (SV → List HO → Prop) → Prop) (Q : SV → List HO → Prop) (hc : gCso args h = some tr) (ht : tr Q) : FnOk Try.prog 21 args h Q := by
  unfold gCso at hc
  split at hc
  · simp only [Option.some.injEq] at hc
    subst hc
    obtain ⟨s, ⟨rfl, e0⟩, ⟨rfl, e1⟩, ⟨rfl, e2⟩, ⟨rfl, e3⟩, hs, hq⟩ := ht.h
    exact FnOk.ac (cso_ok s hs Q hq) ⟨⟨rfl, rfl, rfl, rfl, e0⟩, ⟨rfl, rfl, rfl, rfl, e1⟩, ⟨rfl, rfl, rfl, rfl, e2⟩, ⟨rfl, rfl, rfl, rfl, e3⟩, trivial⟩
  · cases hc
end Go.Proofs.Ytlmjdcbhpffanaa
/- Contracts for SheetMods. -/
namespace Go.Proofs.Ytlmjdcbhpffanaa
open Go.Sx Go.Pl
set_option linter.unusedVariables false
set_option maxRecDepth 100000
noncomputable def K103 : Con Try.prog := K84.add 21 gCso gCso_ok
end Go.Proofs.Ytlmjdcbhpffanaa
/- SheetMods: the walk. -/
namespace Go.Pl
open Go.Sx
noncomputable def tM (so : Int) (l : List (List Nat)) (i : Nat) : Nat → Nat × (Nat → Nat → Cell) := fun q => if q < i then ((gT l q).length, cE ((gT l q).map (mdV so))) else ((gT l q).length, cE (gT l q))
theorem tM_0 (so : Int) (l : List (List Nat)) : tM so l 0 = tC l := by
  funext q; rw [tM, if_neg (by omega)]; rfl
theorem tM_at (so : Int) (l : List (List Nat)) (i : Nat) : tM so l i i = ((gT l i).length, cE (gT l i)) := by rw [tM, if_neg (by omega)]
theorem updR_tM (so : Int) (l : List (List Nat)) (i : Nat) : updR (tM so l i) i (gT l i).length (Ct.at (.fn (cE ((gT l i).map (mdV so))))) = tM so l (i + 1) := by
  funext q
  by_cases h : q = i
  · subst h; rw [updR_eq, tM, if_pos (by omega)]; rfl
  · rw [updR_ne _ _ _ _ h, tM, tM]
    by_cases h2 : q < i
    · rw [if_pos h2, if_pos (by omega)]
    · rw [if_neg h2, if_neg (by omega)]
theorem tM_cT (so : Int) (l : List (List Nat)) (k j : Nat) (hk : k < l.length) : Cell.s false 4 (tM so l l.length k).1 (tM so l l.length k).2 = cT (modT so l) k j := by
  rw [tM, if_pos hk]
  show _ = Cell.s false 4 (gT (modT so l) k).length (cE (gT (modT so l) k))
  rw [gT_mod, List.length_map]
noncomputable def mixE (so : Int) (col : List Nat) (j : Nat) : List Nat := (col.take j).map (mdV so) ++ col.drop j
theorem mixE_0 (so : Int) (col : List Nat) : mixE so col 0 = col := by simp [mixE]
theorem mixE_all (so : Int) (col : List Nat) : mixE so col col.length = col.map (mdV so) := by simp [mixE]
theorem mixE_lt {so : Int} {col : List Nat} {j k : Nat} (h : k < j) (hk : k < col.length) : gE (mixE so col j) k = mdV so (gE col k) := by
  have hl : ((col.take j).map (mdV so)).length = min j col.length := by rw [List.length_map, List.length_take]
  simp only [gE, mixE, List.getD_eq_getElem?_getD]
  rw [List.getElem?_append_left (by omega), List.getElem?_map, List.getElem?_take, if_pos h, List.getElem?_eq_getElem hk]
  rfl
theorem mixE_ge {so : Int} {col : List Nat} {j k : Nat} (h : j ≤ k) (hj : j ≤ col.length) : gE (mixE so col j) k = gE col k := by
  have hl : ((col.take j).map (mdV so)).length = min j col.length := by rw [List.length_map, List.length_take]
  simp only [gE, mixE, List.getD_eq_getElem?_getD]
  rw [List.getElem?_append_right (by omega), List.getElem?_drop]
  congr 2
  omega
theorem md_limbs {so : Int} (h : so = 0 ∨ so = 1) (a : Nat) : (IntKind.wrap IntKind.u64 ((limb (fAd so a 0) 0 : Nat) + (limb (fP so) 0 : Nat) : Int) = ((limb (mdV so a) 0 : Nat) : Int)) ∧ limb (fAd so a 0) 1 = limb (mdV so a) 1 ∧ limb (fAd so a 0) 2 = limb (mdV so a) 2 ∧ limb (fAd so a 0) 3 = limb (mdV so a) 3 := by
  obtain ⟨h1, h2⟩ := fAd_little h a
  obtain ⟨a0, a1, a2, a3⟩ := limb_small (fAd so a 0) (by omega)
  obtain ⟨b0, b1, b2, b3⟩ := limb_small (fP so) (by omega)
  obtain ⟨c0, c1, c2, c3⟩ := limb_small (mdV so a) (by unfold mdV; omega)
  rw [a0, a1, a2, a3, b0, c0, c1, c2, c3, wrap_u64]
  refine ⟨?_, rfl, rfl, rfl⟩
  rw [mdV]
  omega
theorem upd_mix {so : Int} (hso : so = 0 ∨ so = 1) {col : List Nat} {j : Nat} (hj : j < col.length) {z : Nat} (hz : z = gE col j) : ∀ k, k < col.length → ∀ y, y < 4 → (Ct.upd (Ct.fn (cE (mixE so col j))) j 0 [Cell.v (.int .u64 (IntKind.wrap IntKind.u64 ((limb (fAd so z 0) 0 : Nat) + (limb (fP so) 0 : Nat) : Int))), Cell.v (.int .u64 (limb (fAd so z 0) 1 : Nat)), Cell.v (.int .u64 (limb (fAd so z 0) 2 : Nat)), Cell.v (.int .u64 (limb (fAd so z 0) 3 : Nat))]).at k y = (Ct.fn (cE (mixE so col (j + 1)))).at k y := by
  intro k hk y hy
  show updC (cE (mixE so col j)) j 0 _ k y = cE (mixE so col (j + 1)) k y
  obtain ⟨m0, m1, m2, m3⟩ := md_limbs hso z
  rw [m0, m1, m2, m3, hz, updC]
  by_cases hkj : k = j
  · subst hkj
    rw [Nat.beq_refl, Bool.true_and, show Nat.ble 0 y = true from rfl, cond_true, Nat.sub_zero]
    show _ = Cell.v (.int .u64 (limb (gE (mixE so col (k + 1)) k) y : Nat))
    rw [mixE_lt (by omega) hk]
    match y, hy with
    | 0, _ => rfl
    | 1, _ => rfl
    | 2, _ => rfl
    | 3, _ => rfl
  · have hb : Nat.beq k j = false := by
      rw [Bool.eq_false_iff]
      intro hh
      exact hkj (Nat.eq_of_beq_eq_true hh)
    rw [hb, Bool.false_and, cond_false]
    show Cell.v (.int .u64 (limb (gE (mixE so col j) k) y : Nat)) = Cell.v (.int .u64 (limb (gE (mixE so col (j + 1)) k) y : Nat))
    by_cases h2 : k < j
    · rw [mixE_lt h2 hk, mixE_lt (by omega) hk]
    · rw [mixE_ge (by omega) (by omega), mixE_ge (by omega) (by omega)]
theorem fltR_len2 (c : Cir) (s : Sht) (so k : Int) : (fltR c s so k).1.length ≤ 100000 := by
  rw [fltR]
  split
  · exact Nat.zero_le _
  · split
    · exact Nat.zero_le _
    · rename_i h1 h2
      have h3 : fitV c k s = 0 := by omega
      obtain ⟨h4, _, h5, _⟩ := fitV_zero h3
      exact fltV_len h4 h5 (cps_in h3).1
end Go.Pl
namespace Go.Proofs.Ytlmjdcbhpffanaa
open Go.Sx Go.Pl
set_option linter.unusedVariables false
set_option maxRecDepth 100000
theorem smS (c : Cir) (s : Sht) (so k : Int) (K : List It → St → Prop) (R : SV → List HO → Prop) : W (xwp Try.prog X K103 [] 60 (fxOf Try.f8 [] [⟨[0,1,0,1,1,1,1,1], [12,11,9,7,5,2,0], []⟩, ⟨[0,1,0,0,1,0,0,1,0,1,1,1,1,1], [13,12,11,9,7,5,2,0], []⟩]) [] [.at []] ⟨argsS 0 [.v (.int .i64 so), .agg [.v (.int .i64 c.fx), .v (.int .i64 c.ad), .v (.int .i64 c.ins), .x 0 [], .x 1 [], .x 2 [], .x 3 []], .v (.int .i64 k), .agg [.x 4 [], .x 5 [], .x 6 [], .x 7 []]], [.ext false (.s false 7 c.nodes.length (cN c.nodes)), .ext false (.s false 1 c.gates.length (cI c.gates)), .ext false (.s false 2 c.looks.length (cL c.looks)), .ext false (.s false 2 c.eqs.length (cK c.eqs)), .ext false (.s false 1 s.fx.length (cT s.fx)), .ext false (.s false 1 s.ad.length (cT s.ad)), .ext false (.s false 1 s.is.length (cT s.is)), .ext false (.s false 4 s.cp.length (cP s.cp))]⟩ K R) = W (lF c.1 c.2 c.3 c.4.length c.5.length c.6.length c.7.length s.1.length s.2.length s.3.length s.4.length (cN c.4) (cI c.5) (cL c.6) (cK c.7) (cT s.1) (cT s.2) (cT s.3) (cP s.4) fun (c_1 : Cir) (s_1 : Sht) => bif great13 c_1 s_1 then R (.v (.bool true)) [] else bif decide (so < (0 : Int)) then R (.v (.bool true)) [] else bif decide ((1 : Int) < so) then R (.v (.bool true)) [] else (∀ M : Mem, 0 + 4 ≤ 4) ∧ lS s.1.length s.2.length s.3.length s.4.length (cT s.1) (cT s.2) (cT s.3) (cP s.4) fun (s_2 : Sht) => (∀ M : Mem, 0 + 4 ≤ 4) ∧ K [.at [0,1,0,1,1,1,1,1], .blk 0, .at [1,1,1,1,1,1]] (St.mk [(12, .v (vi64 0)), (11, .p 0 0), (9, .p 1 0), (7, .p 2 0), (5, .p 3 0), (2, .v (vi64 k)), (0, .v (vi64 so))] [.cells [.o 4, .o 5, .o 6, .o 7] 49, .cells [.v (vu64 (↑(limb (fP so) 0) : Int)), .v (vu64 (↑(limb (fP so) 1) : Int)), .v (vu64 (↑(limb (fP so) 2) : Int)), .v (vu64 (↑(limb (fP so) 3) : Int))] 56, .cells [.x 8 [], .x 9 [], .x 10 [], .x 11 []] 49, .cells [.v (vi64 c.1), .v (vi64 c.2), .v (vi64 c.3), .x 12 [], .x 13 [], .x 14 [], .x 15 []] 27, HO.tbl 44 56 4 s_2.1.length (tC s_2.1) none, HO.tbl 44 56 4 s_2.2.length (tC s_2.2) none, HO.tbl 44 56 4 s_2.3.length (tC s_2.3) none, .rowc 103 4 s_2.4.length (.fn (cP s_2.4)), .ext false (.s false 1 s.1.length (cT s.1)), .ext false (.s false 1 s.2.length (cT s.2)), .ext false (.s false 1 s.3.length (cT s.3)), .ext false (.s false 4 s.4.length (cP s.4)), .ext false (.s false 7 c.4.length (cN c.4)), .ext false (.s false 1 c.5.length (cI c.5)), .ext false (.s false 2 c.6.length (cL c.6)), .ext false (.s false 2 c.7.length (cK c.7))])) := by kernel_rfl
theorem smO (c : Cir) (s : Sht) (so k : Int) (g : Nat → Nat × (Nat → Nat → Cell)) (n : Nat) (i M : Nat) (K : List It → St → Prop) (R : SV → List HO → Prop) : W (xwp Try.prog X K84 [] 60 (fxOf Try.f8 [] [⟨[0,1,0,1,1,1,1,1], [12,11,9,7,5,2,0], []⟩, ⟨[0,1,0,0,1,0,0,1,0,1,1,1,1,1], [13,12,11,9,7,5,2,0], []⟩]) [] (.at [0,0,1,0,1,1,1,1,1] :: .rnd [0,0,1,0,1,1,1,1,1] M :: [.blk 0, .at [1,1,1,1,1,1]]) ⟨[(12, .v (.int .i64 (i : Int))), (11, .p 0 0), (9, .p 1 0), (7, .p 2 0), (5, .p 3 0), (2, .v (.int .i64 k)), (0, .v (.int .i64 so))], [.cells [.x 4 [], .o 5, .x 6 [], .x 7 []] 49, .cells [.v (vu64 (limb (fP so) 0 : Nat)), .v (vu64 (limb (fP so) 1 : Nat)), .v (vu64 (limb (fP so) 2 : Nat)), .v (vu64 (limb (fP so) 3 : Nat))] 56, .cells [.x 8 [], .x 9 [], .x 10 [], .x 11 []] 49, .cells [.v (vi64 c.1), .v (vi64 c.2), .v (vi64 c.3), .x 12 [], .x 13 [], .x 14 [], .x 15 []] 27, .ext false (.s false 1 s.1.length (cT s.1)), .tbl 44 56 4 n g none, .ext false (.s false 1 s.3.length (cT s.3)), .ext false (.s false 4 s.4.length (cP s.4)), .ext false (.s false 1 s.1.length (cT s.1)), .ext false (.s false 1 s.2.length (cT s.2)), .ext false (.s false 1 s.3.length (cT s.3)), .ext false (.s false 4 s.4.length (cP s.4)), .ext false (.s false 7 c.4.length (cN c.4)), .ext false (.s false 1 c.5.length (cI c.5)), .ext false (.s false 2 c.6.length (cL c.6)), .ext false (.s false 2 c.7.length (cK c.7))]⟩ K R) = W (bif decide ((↑i : Int) < (↑n : Int)) then K [.at [0,1,0,0,1,0,0,1,0,1,1,1,1,1], .blk 2, .blk 1, .at [1,1,0,0,1,0,1,1,1,1,1], .rnd [0,0,1,0,1,1,1,1,1] M, .blk 0, .at [1,1,1,1,1,1]] (St.mk [(13, .v (vi64 0)), (12, .v (vi64 (↑i : Int))), (11, .p 0 0), (9, .p 1 0), (7, .p 2 0), (5, .p 3 0), (2, .v (vi64 k)), (0, .v (vi64 so))] [.cells [.x 4 [], .o 5, .x 6 [], .x 7 []] 49, .cells [.v (vu64 (↑(limb (fP so) 0) : Int)), .v (vu64 (↑(limb (fP so) 1) : Int)), .v (vu64 (↑(limb (fP so) 2) : Int)), .v (vu64 (↑(limb (fP so) 3) : Int))] 56, .cells [.x 8 [], .x 9 [], .x 10 [], .x 11 []] 49, .cells [.v (vi64 c.1), .v (vi64 c.2), .v (vi64 c.3), .x 12 [], .x 13 [], .x 14 [], .x 15 []] 27, .ext false (.s false 1 s.1.length (cT s.1)), HO.tbl 44 56 4 n g none, .ext false (.s false 1 s.3.length (cT s.3)), .ext false (.s false 4 s.4.length (cP s.4)), .ext false (.s false 1 s.1.length (cT s.1)), .ext false (.s false 1 s.2.length (cT s.2)), .ext false (.s false 1 s.3.length (cT s.3)), .ext false (.s false 4 s.4.length (cP s.4)), .ext false (.s false 7 c.4.length (cN c.4)), .ext false (.s false 1 c.5.length (cI c.5)), .ext false (.s false 2 c.6.length (cL c.6)), .ext false (.s false 2 c.7.length (cK c.7))]) else lC c.1 c.2 c.3 c.4.length c.5.length c.6.length c.7.length (cN c.4) (cI c.5) (cL c.6) (cK c.7) fun (c_1 : Cir) => lS s.1.length s.2.length s.3.length s.4.length (cT s.1) (cT s.2) (cT s.3) (cP s.4) fun (s_1 : Sht) => lF c_1.1 c_1.2 c_1.3 c_1.4.length c_1.5.length c_1.6.length c_1.7.length s_1.1.length s_1.2.length s_1.3.length s_1.4.length (cN c_1.4) (cI c_1.5) (cL c_1.6) (cK c_1.7) (cT s_1.1) (cT s_1.2) (cT s_1.3) (cP s_1.4) fun (c_2 : Cir) (s_2 : Sht) => lC c.1 c.2 c.3 c.4.length c.5.length c.6.length c.7.length (cN c.4) (cI c.5) (cL c.6) (cK c.7) fun (c_3 : Cir) => K [It.one [0,1,1,1,1,1,1,1] 5 (Array.mk [true, true, true, true, true, false, false, false, false, false, false]) 5, .at [1,1,1,1,1,1,1,1]] (St.mk [(94, .agg [.v (vi64 c_3.1), .v (vi64 c_3.2), .v (vi64 c_3.3), .x (25 + 0) [], .x (25 + 1) [], .x (25 + 2) [], .x (25 + 3) []]), (96, .agg [.x 4 [], .o 5, .x 6 [], .x 7 []]), (95, .v (vi64 k)), (93, .agg [.v (vi64 c.1), .v (vi64 c.2), .v (vi64 c.3), .x 12 [], .x 13 [], .x 14 [], .x 15 []]), (92, .v (vi64 so)), (16, .v (vi64 (fltR c_2 s_2 so k).2)), (15, .o (24 + 0)), (90, .v (vi64 (fltR c_2 s_2 so k).2)), (89, .o (24 + 0)), (81, .tup [.o (24 + 0), .v (vi64 (fltR c_2 s_2 so k).2)]), (88, .tup [.o (24 + 0), .v (vi64 (fltR c_2 s_2 so k).2)]), (87, .agg [.x (20 + 0) [], .x (20 + 1) [], .x (20 + 2) [], .x (20 + 3) []]), (84, .agg [.v (vi64 c_1.1), .v (vi64 c_1.2), .v (vi64 c_1.3), .x (16 + 0) [], .x (16 + 1) [], .x (16 + 2) [], .x (16 + 3) []]), (86, .agg [.x 8 [], .x 9 [], .x 10 [], .x 11 []]), (85, .v (vi64 k)), (83, .agg [.v (vi64 c.1), .v (vi64 c.2), .v (vi64 c.3), .x 12 [], .x 13 [], .x 14 [], .x 15 []]), (82, .v (vi64 so)), (43, .bl false), (42, .v (vi64 (↑n : Int))), (41, .o 5), (40, .p 0 1), (39, .v (vi64 (↑i : Int))), (12, .v (vi64 (↑i : Int))), (11, .p 0 0), (9, .p 1 0), (7, .p 2 0), (5, .p 3 0), (2, .v (vi64 k)), (0, .v (vi64 so))] [.cells [.x 4 [], .o 5, .x 6 [], .x 7 []] 49, .cells [.v (vu64 (↑(limb (fP so) 0) : Int)), .v (vu64 (↑(limb (fP so) 1) : Int)), .v (vu64 (↑(limb (fP so) 2) : Int)), .v (vu64 (↑(limb (fP so) 3) : Int))] 56, .cells [.x 8 [], .x 9 [], .x 10 [], .x 11 []] 49, .cells [.v (vi64 c.1), .v (vi64 c.2), .v (vi64 c.3), .x 12 [], .x 13 [], .x 14 [], .x 15 []] 27, .ext false (.s false 1 s.1.length (cT s.1)), HO.tbl 44 56 4 n g none, .ext false (.s false 1 s.3.length (cT s.3)), .ext false (.s false 4 s.4.length (cP s.4)), .ext false (.s false 1 s.1.length (cT s.1)), .ext false (.s false 1 s.2.length (cT s.2)), .ext false (.s false 1 s.3.length (cT s.3)), .ext false (.s false 4 s.4.length (cP s.4)), .ext false (.s false 7 c.4.length (cN c.4)), .ext false (.s false 1 c.5.length (cI c.5)), .ext false (.s false 2 c.6.length (cL c.6)), .ext false (.s false 2 c.7.length (cK c.7)), .ext false (.s false 7 c_1.4.length (cN c_1.4)), .ext false (.s false 1 c_1.5.length (cI c_1.5)), .ext false (.s false 2 c_1.6.length (cL c_1.6)), .ext false (.s false 2 c_1.7.length (cK c_1.7)), .ext false (.s false 1 s_1.1.length (cT s_1.1)), .ext false (.s false 1 s_1.2.length (cT s_1.2)), .ext false (.s false 1 s_1.3.length (cT s_1.3)), .ext false (.s false 4 s_1.4.length (cP s_1.4)), .rowc 76 3 (List.length (fltR c_2 s_2 so k).1) (.fn (cQ (fltR c_2 s_2 so k).1)), .ext false (.s false 7 c_3.4.length (cN c_3.4)), .ext false (.s false 1 c_3.5.length (cI c_3.5)), .ext false (.s false 2 c_3.6.length (cL c_3.6)), .ext false (.s false 2 c_3.7.length (cK c_3.7))])) := by kernel_rfl
theorem smI (c : Cir) (s : Sht) (so k : Int) (g : Nat → Nat × (Nat → Nat → Cell)) (n : Nat) (vs : List Nat) (m i j M2 M : Nat) (K : List It → St → Prop) (R : SV → List HO → Prop) : W (xwp Try.prog X K103 [] 60 (fxOf Try.f8 [] [⟨[0,1,0,1,1,1,1,1], [12,11,9,7,5,2,0], []⟩, ⟨[0,1,0,0,1,0,0,1,0,1,1,1,1,1], [13,12,11,9,7,5,2,0], []⟩]) [] (.at [0,0,1,0,0,1,0,0,1,0,1,1,1,1,1] :: .rnd [0,0,1,0,0,1,0,0,1,0,1,1,1,1,1] M :: [.blk 2, .blk 1, .at [1,1,0,0,1,0,1,1,1,1,1], .rnd [0,0,1,0,1,1,1,1,1] M2, .blk 0, .at [1,1,1,1,1,1]]) ⟨[(13, .v (.int .i64 (j : Int))), (12, .v (.int .i64 (i : Int))), (11, .p 0 0), (9, .p 1 0), (7, .p 2 0), (5, .p 3 0), (2, .v (.int .i64 k)), (0, .v (.int .i64 so))], [.cells [.x 4 [], .o 5, .x 6 [], .x 7 []] 49, .cells [.v (vu64 (limb (fP so) 0 : Nat)), .v (vu64 (limb (fP so) 1 : Nat)), .v (vu64 (limb (fP so) 2 : Nat)), .v (vu64 (limb (fP so) 3 : Nat))] 56, .cells [.x 8 [], .x 9 [], .x 10 [], .x 11 []] 49, .cells [.v (vi64 c.1), .v (vi64 c.2), .v (vi64 c.3), .x 12 [], .x 13 [], .x 14 [], .x 15 []] 27, .ext false (.s false 1 s.1.length (cT s.1)), .tbl 44 56 4 n g (some (i, 16)), .ext false (.s false 1 s.3.length (cT s.3)), .ext false (.s false 4 s.4.length (cP s.4)), .ext false (.s false 1 s.1.length (cT s.1)), .ext false (.s false 1 s.2.length (cT s.2)), .ext false (.s false 1 s.3.length (cT s.3)), .ext false (.s false 4 s.4.length (cP s.4)), .ext false (.s false 7 c.4.length (cN c.4)), .ext false (.s false 1 c.5.length (cI c.5)), .ext false (.s false 2 c.6.length (cL c.6)), .ext false (.s false 2 c.7.length (cK c.7)), .rowc 56 4 m (.fn (cE vs))]⟩ K R) = W ((∀ M : Mem, (0 : Int) ≤ (↑i : Int) ∧ (↑i : Int) < (↑n : Int)) ∧ (∀ M : Mem, i < n) ∧ (∀ M : Mem, i = i) ∧ bif decide ((↑j : Int) < (↑m : Int)) then (∀ M : Mem, (0 : Int) ≤ (↑i : Int) ∧ (↑i : Int) < (↑n : Int)) ∧ (∀ M : Mem, i < n) ∧ (∀ M : Mem, i = i) ∧ (∀ M : Mem, (0 : Int) ≤ (↑j : Int) ∧ (↑j : Int) < (↑m : Int)) ∧ (∀ M : Mem, j < m) ∧ c2C (eI (gE vs j)) [(0 : Int), (0 : Int), (0 : Int), (0 : Int)] fun (a b : Nat) => (∀ M : Mem, 0 + 4 ≤ 4) ∧ (∀ M : Mem, (0 : Int) ≤ (0 : Int) ∧ (0 : Int) < (4 : Int)) ∧ (∀ M : Mem, (0 : Int) ≤ (0 : Int) ∧ (0 : Int) < (4 : Int)) ∧ (∀ M : Mem, (0 : Int) ≤ (0 : Int) ∧ (0 : Int) < (4 : Int)) ∧ (∀ M : Mem, 0 + 1 ≤ 4) ∧ (∀ M : Mem, (0 : Int) ≤ (↑i : Int) ∧ (↑i : Int) < (↑n : Int)) ∧ (∀ M : Mem, i < n) ∧ (∀ M : Mem, i = i) ∧ (∀ M : Mem, (0 : Int) ≤ (↑j : Int) ∧ (↑j : Int) < (↑m : Int)) ∧ (∀ M : Mem, j < m) ∧ K [.rnd [0,0,1,0,0,1,0,0,1,0,1,1,1,1,1] M, .blk 2, .blk 1, .at [1,1,0,0,1,0,1,1,1,1,1], .rnd [0,0,1,0,1,1,1,1,1] M2, .blk 0, .at [1,1,1,1,1,1]] (St.mk [(13, .v (vi64 (IntKind.wrap .i64 ((↑j : Int) + (1 : Int))))), (12, .v (vi64 (↑i : Int))), (11, .p 0 0), (9, .p 1 0), (7, .p 2 0), (5, .p 3 0), (2, .v (vi64 k)), (0, .v (vi64 so))] [.cells [.x 4 [], .o 5, .x 6 [], .x 7 []] 49, .cells [.v (vu64 (↑(limb (fP so) 0) : Int)), .v (vu64 (↑(limb (fP so) 1) : Int)), .v (vu64 (↑(limb (fP so) 2) : Int)), .v (vu64 (↑(limb (fP so) 3) : Int))] 56, .cells [.x 8 [], .x 9 [], .x 10 [], .x 11 []] 49, .cells [.v (vi64 c.1), .v (vi64 c.2), .v (vi64 c.3), .x 12 [], .x 13 [], .x 14 [], .x 15 []] 27, .ext false (.s false 1 s.1.length (cT s.1)), HO.tbl 44 56 4 n g (some (i, 16)), .ext false (.s false 1 s.3.length (cT s.3)), .ext false (.s false 4 s.4.length (cP s.4)), .ext false (.s false 1 s.1.length (cT s.1)), .ext false (.s false 1 s.2.length (cT s.2)), .ext false (.s false 1 s.3.length (cT s.3)), .ext false (.s false 4 s.4.length (cP s.4)), .ext false (.s false 7 c.4.length (cN c.4)), .ext false (.s false 1 c.5.length (cI c.5)), .ext false (.s false 2 c.6.length (cL c.6)), .ext false (.s false 2 c.7.length (cK c.7)), .rowc 56 4 m (.upd (.fn (cE vs)) j 0 [.v (vu64 (IntKind.wrap IntKind.u64 ((↑(limb (fAd so a b) 0) : Int) + (↑(limb (fP so) 0) : Int)))), .v (vu64 (↑(limb (fAd so a b) 1) : Int)), .v (vu64 (↑(limb (fAd so a b) 2) : Int)), .v (vu64 (↑(limb (fAd so a b) 3) : Int))])]) else K [.rnd [0,0,1,0,1,1,1,1,1] M2, .blk 0, .at [1,1,1,1,1,1]] (St.mk [(12, .v (vi64 (IntKind.wrap .i64 ((↑i : Int) + (1 : Int))))), (11, .p 0 0), (9, .p 1 0), (7, .p 2 0), (5, .p 3 0), (2, .v (vi64 k)), (0, .v (vi64 so))] [.cells [.x 4 [], .o 5, .x 6 [], .x 7 []] 49, .cells [.v (vu64 (↑(limb (fP so) 0) : Int)), .v (vu64 (↑(limb (fP so) 1) : Int)), .v (vu64 (↑(limb (fP so) 2) : Int)), .v (vu64 (↑(limb (fP so) 3) : Int))] 56, .cells [.x 8 [], .x 9 [], .x 10 [], .x 11 []] 49, .cells [.v (vi64 c.1), .v (vi64 c.2), .v (vi64 c.3), .x 12 [], .x 13 [], .x 14 [], .x 15 []] 27, .ext false (.s false 1 s.1.length (cT s.1)), HO.tbl 44 56 4 n g (some (i, 16)), .ext false (.s false 1 s.3.length (cT s.3)), .ext false (.s false 4 s.4.length (cP s.4)), .ext false (.s false 1 s.1.length (cT s.1)), .ext false (.s false 1 s.2.length (cT s.2)), .ext false (.s false 1 s.3.length (cT s.3)), .ext false (.s false 4 s.4.length (cP s.4)), .ext false (.s false 7 c.4.length (cN c.4)), .ext false (.s false 1 c.5.length (cI c.5)), .ext false (.s false 2 c.6.length (cL c.6)), .ext false (.s false 2 c.7.length (cK c.7)), .rowc 56 4 m (.fn (cE vs))])) := by kernel_rfl
theorem smE (c : Cir) (s t : Sht) (so k : Int) (n M : Nat) (K : List It → St → Prop) (R : SV → List HO → Prop) : W (xwp Try.prog X K84 [] 60 (fxOf Try.f8 [] [⟨[0,1,0,1,1,1,1,1], [12,11,9,7,5,2,0], []⟩, ⟨[0,1,0,0,1,0,0,1,0,1,1,1,1,1], [13,12,11,9,7,5,2,0], []⟩]) [] (.at [0,0,1,0,1,1,1,1,1] :: .rnd [0,0,1,0,1,1,1,1,1] M :: [.blk 0, .at [1,1,1,1,1,1]]) ⟨[(12, .v (.int .i64 (n : Int))), (11, .p 0 0), (9, .p 1 0), (7, .p 2 0), (5, .p 3 0), (2, .v (.int .i64 k)), (0, .v (.int .i64 so))], [.cells [.x 4 [], .x 5 [], .x 6 [], .x 7 []] 49, .cells [.v (vu64 (limb (fP so) 0 : Nat)), .v (vu64 (limb (fP so) 1 : Nat)), .v (vu64 (limb (fP so) 2 : Nat)), .v (vu64 (limb (fP so) 3 : Nat))] 56, .cells [.x 8 [], .x 9 [], .x 10 [], .x 11 []] 49, .cells [.v (vi64 c.1), .v (vi64 c.2), .v (vi64 c.3), .x 12 [], .x 13 [], .x 14 [], .x 15 []] 27, .ext false (.s false 1 t.1.length (cT t.1)), .ext false (.s false 1 t.2.length (cT t.2)), .ext false (.s false 1 t.3.length (cT t.3)), .ext false (.s false 4 t.4.length (cP t.4)), .ext false (.s false 1 s.1.length (cT s.1)), .ext false (.s false 1 s.2.length (cT s.2)), .ext false (.s false 1 s.3.length (cT s.3)), .ext false (.s false 4 s.4.length (cP s.4)), .ext false (.s false 7 c.4.length (cN c.4)), .ext false (.s false 1 c.5.length (cI c.5)), .ext false (.s false 2 c.6.length (cL c.6)), .ext false (.s false 2 c.7.length (cK c.7))]⟩ K R) = W (bif decide ((↑n : Int) < (↑t.2.length : Int)) then K [.at [0,1,0,0,1,0,0,1,0,1,1,1,1,1], .blk 2, .blk 1, .at [1,1,0,0,1,0,1,1,1,1,1], .rnd [0,0,1,0,1,1,1,1,1] M, .blk 0, .at [1,1,1,1,1,1]] (St.mk [(13, .v (vi64 0)), (12, .v (vi64 (↑n : Int))), (11, .p 0 0), (9, .p 1 0), (7, .p 2 0), (5, .p 3 0), (2, .v (vi64 k)), (0, .v (vi64 so))] [.cells [.x 4 [], .x 5 [], .x 6 [], .x 7 []] 49, .cells [.v (vu64 (↑(limb (fP so) 0) : Int)), .v (vu64 (↑(limb (fP so) 1) : Int)), .v (vu64 (↑(limb (fP so) 2) : Int)), .v (vu64 (↑(limb (fP so) 3) : Int))] 56, .cells [.x 8 [], .x 9 [], .x 10 [], .x 11 []] 49, .cells [.v (vi64 c.1), .v (vi64 c.2), .v (vi64 c.3), .x 12 [], .x 13 [], .x 14 [], .x 15 []] 27, .ext false (.s false 1 t.1.length (cT t.1)), .ext false (.s false 1 t.2.length (cT t.2)), .ext false (.s false 1 t.3.length (cT t.3)), .ext false (.s false 4 t.4.length (cP t.4)), .ext false (.s false 1 s.1.length (cT s.1)), .ext false (.s false 1 s.2.length (cT s.2)), .ext false (.s false 1 s.3.length (cT s.3)), .ext false (.s false 4 s.4.length (cP s.4)), .ext false (.s false 7 c.4.length (cN c.4)), .ext false (.s false 1 c.5.length (cI c.5)), .ext false (.s false 2 c.6.length (cL c.6)), .ext false (.s false 2 c.7.length (cK c.7))]) else lC c.1 c.2 c.3 c.4.length c.5.length c.6.length c.7.length (cN c.4) (cI c.5) (cL c.6) (cK c.7) fun (c_1 : Cir) => lS s.1.length s.2.length s.3.length s.4.length (cT s.1) (cT s.2) (cT s.3) (cP s.4) fun (s : Sht) => lF c_1.1 c_1.2 c_1.3 c_1.4.length c_1.5.length c_1.6.length c_1.7.length s.1.length s.2.length s.3.length s.4.length (cN c_1.4) (cI c_1.5) (cL c_1.6) (cK c_1.7) (cT s.1) (cT s.2) (cT s.3) (cP s.4) fun (c_2 : Cir) (s : Sht) => lC c.1 c.2 c.3 c.4.length c.5.length c.6.length c.7.length (cN c.4) (cI c.5) (cL c.6) (cK c.7) fun (c : Cir) => lF c.1 c.2 c.3 c.4.length c.5.length c.6.length c.7.length t.1.length t.2.length t.3.length t.4.length (cN c.4) (cI c.5) (cL c.6) (cK c.7) (cT t.1) (cT t.2) (cT t.3) (cP t.4) fun (c : Cir) (s_1 : Sht) => lQ2 (List.length (fltR c_2 s so k).1) (List.length (fltR c s_1 so k).1) (cQ (fltR c_2 s so k).1) (cQ (fltR c s_1 so k).1) fun (l l2 : List (Int × Int × Int)) => bif decide (l = l2) then R (.v (.bool ((fltR c_2 s so k).2 == (fltR c s_1 so k).2))) [] else R (.v (.bool false)) []) := by kernel_rfl
theorem smI_loop (c : Cir) (hc : c.ok) (s : Sht) (hs : s.ok) (so k : Int) (hso : so = 0 ∨ so = 1) (Q : SV → List HO → Prop) (hq : Q (.v (.bool true)) []) (i M2 : Nat) (hi : i < s.2.length) (next : FOk Try.prog Try.f8 Q (.rnd [0,0,1,0,1,1,1,1,1] M2 :: [.blk 0, .at [1, 1, 1, 1, 1, 1]]) ⟨[(12, .v (.int .i64 ((i + 1 : Nat) : Int))), (11, .p 0 0), (9, .p 1 0), (7, .p 2 0), (5, .p 3 0), (2, .v (.int .i64 k)), (0, .v (.int .i64 so))], [.cells [.x 4 [], .o 5, .x 6 [], .x 7 []] 49, .cells [.v (vu64 (limb (fP so) 0 : Nat)), .v (vu64 (limb (fP so) 1 : Nat)), .v (vu64 (limb (fP so) 2 : Nat)), .v (vu64 (limb (fP so) 3 : Nat))] 56, .cells [.x 8 [], .x 9 [], .x 10 [], .x 11 []] 49, .cells [.v (vi64 c.1), .v (vi64 c.2), .v (vi64 c.3), .x 12 [], .x 13 [], .x 14 [], .x 15 []] 27, .ext false (.s false 1 s.1.length (cT s.1)), .tbl 44 56 4 s.2.length (tM so s.2 (i + 1)) none, .ext false (.s false 1 s.3.length (cT s.3)), .ext false (.s false 4 s.4.length (cP s.4)), .ext false (.s false 1 s.1.length (cT s.1)), .ext false (.s false 1 s.2.length (cT s.2)), .ext false (.s false 1 s.3.length (cT s.3)), .ext false (.s false 4 s.4.length (cP s.4)), .ext false (.s false 7 c.4.length (cN c.4)), .ext false (.s false 1 c.5.length (cI c.5)), .ext false (.s false 2 c.6.length (cL c.6)), .ext false (.s false 2 c.7.length (cK c.7))]⟩) : ∀ (d j : Nat), j + d = (gT s.2 i).length →
    FOk Try.prog Try.f8 Q (.rnd [0,0,1,0,0,1,0,0,1,0,1,1,1,1,1] (d + 1) :: [.blk 2, .blk 1, .at [1, 1, 0, 0, 1, 0, 1, 1, 1, 1, 1], .rnd [0, 0, 1, 0, 1, 1, 1, 1, 1] M2, .blk 0, .at [1, 1, 1, 1, 1, 1]]) ⟨[(13, .v (.int .i64 (j : Int))), (12, .v (.int .i64 (i : Int))), (11, .p 0 0), (9, .p 1 0), (7, .p 2 0), (5, .p 3 0), (2, .v (.int .i64 k)), (0, .v (.int .i64 so))], [.cells [.x 4 [], .o 5, .x 6 [], .x 7 []] 49, .cells [.v (vu64 (limb (fP so) 0 : Nat)), .v (vu64 (limb (fP so) 1 : Nat)), .v (vu64 (limb (fP so) 2 : Nat)), .v (vu64 (limb (fP so) 3 : Nat))] 56, .cells [.x 8 [], .x 9 [], .x 10 [], .x 11 []] 49, .cells [.v (vi64 c.1), .v (vi64 c.2), .v (vi64 c.3), .x 12 [], .x 13 [], .x 14 [], .x 15 []] 27, .ext false (.s false 1 s.1.length (cT s.1)), .tbl 44 56 4 s.2.length (tM so s.2 i) (some (i, 16)), .ext false (.s false 1 s.3.length (cT s.3)), .ext false (.s false 4 s.4.length (cP s.4)), .ext false (.s false 1 s.1.length (cT s.1)), .ext false (.s false 1 s.2.length (cT s.2)), .ext false (.s false 1 s.3.length (cT s.3)), .ext false (.s false 4 s.4.length (cP s.4)), .ext false (.s false 7 c.4.length (cN c.4)), .ext false (.s false 1 c.5.length (cI c.5)), .ext false (.s false 2 c.6.length (cL c.6)), .ext false (.s false 2 c.7.length (cK c.7)), .rowc 56 4 (gT s.2 i).length (.fn (cE (mixE so (gT s.2 i) j)))]⟩
  | 0, j, hd => by
    have h1 := hs.a.2
    refine FOk.rnd (run_sound hm 60 ((smI c s so k (tM so s.2 i) s.2.length (mixE so (gT s.2 i) j) (gT s.2 i).length i j M2 0 _ _).mpr ⟨?_⟩))
    refine And.intro (fun _ => by omega) (And.intro (fun _ => by omega) (And.intro (fun _ => rfl) ?_))
    rw [cond_dec, if_neg (by omega), wrap_inc _ (by omega)]
    rw [show j = (gT s.2 i).length by omega, mixE_all]
    refine FOk.unfocus 5 16 i rfl rfl (by omega) ?_
    rw [updR_tM]
    exact FOk.norm (ks := [12,11,9,7,5,2,0]) (nl := []) (st' := ⟨[(12, .v (.int .i64 ((i + 1 : Nat) : Int))), (11, .p 0 0), (9, .p 1 0), (7, .p 2 0), (5, .p 3 0), (2, .v (.int .i64 k)), (0, .v (.int .i64 so))], [.cells [.x 4 [], .o 5, .x 6 [], .x 7 []] 49, .cells [.v (vu64 (limb (fP so) 0 : Nat)), .v (vu64 (limb (fP so) 1 : Nat)), .v (vu64 (limb (fP so) 2 : Nat)), .v (vu64 (limb (fP so) 3 : Nat))] 56, .cells [.x 8 [], .x 9 [], .x 10 [], .x 11 []] 49, .cells [.v (vi64 c.1), .v (vi64 c.2), .v (vi64 c.3), .x 12 [], .x 13 [], .x 14 [], .x 15 []] 27, .ext false (.s false 1 s.1.length (cT s.1)), .tbl 44 56 4 s.2.length (tM so s.2 (i + 1)) none, .ext false (.s false 1 s.3.length (cT s.3)), .ext false (.s false 4 s.4.length (cP s.4)), .ext false (.s false 1 s.1.length (cT s.1)), .ext false (.s false 1 s.2.length (cT s.2)), .ext false (.s false 1 s.3.length (cT s.3)), .ext false (.s false 4 s.4.length (cP s.4)), .ext false (.s false 7 c.4.length (cN c.4)), .ext false (.s false 1 c.5.length (cI c.5)), .ext false (.s false 2 c.6.length (cL c.6)), .ext false (.s false 2 c.7.length (cK c.7))]⟩) (by kernel_rfl) next
  | d + 1, j, hd => by
    have h1 := hs.a.2
    have hj : j < (gT s.2 i).length := by omega
    obtain ⟨g0, g1⟩ := hs.a.1 _ (gT_mem hi)
    have hg : gE (mixE so (gT s.2 i) j) j = gE (gT s.2 i) j := mixE_ge (Nat.le_refl _) (by omega)
    have ih := smI_loop c hc s hs so k hso Q hq i M2 hi next d (j + 1) (by omega)
    refine FOk.rnd (run_sound hm 60 ((smI c s so k (tM so s.2 i) s.2.length (mixE so (gT s.2 i) j) (gT s.2 i).length i j M2 (d + 1) _ _).mpr ⟨?_⟩))
    refine And.intro (fun _ => by omega) (And.intro (fun _ => by omega) (And.intro (fun _ => rfl) ?_))
    rw [cond_dec, if_pos (by omega), wrap_inc _ (by omega), ← eI_zero]
    refine And.intro (fun _ => by omega) (And.intro (fun _ => by omega) (And.intro (fun _ => rfl) (And.intro (fun _ => by omega) (And.intro (fun _ => by omega) ?_))))
    refine c2C_mk _ 0 (by rw [hg]; exact gE_top g0 _) top0 ?_
    refine And.intro (fun _ => by omega) (And.intro (fun _ => by omega) (And.intro (fun _ => by omega) (And.intro (fun _ => by omega) (And.intro (fun _ => by omega) (And.intro (fun _ => by omega) (And.intro (fun _ => by omega) (And.intro (fun _ => rfl) (And.intro (fun _ => by omega) (And.intro (fun _ => by omega) ?_)))))))))
    exact FOk.cv ih ⟨HE.refl _, HE.refl _, HE.refl _, HE.refl _, HE.refl _, HE.refl _, HE.refl _, HE.refl _, HE.refl _, HE.refl _, HE.refl _, HE.refl _, HE.refl _, HE.refl _, HE.refl _, HE.refl _, ⟨rfl, rfl, rfl, upd_mix hso hj hg⟩, trivial⟩
theorem smO_loop (c : Cir) (hc : c.ok) (s : Sht) (hs : s.ok) (so k : Int) (hso : so = 0 ∨ so = 1) (Q : SV → List HO → Prop) (hq : Q (.v (.bool true)) []) : ∀ (d i : Nat), i + d = s.2.length →
    FOk Try.prog Try.f8 Q (.rnd [0,0,1,0,1,1,1,1,1] (d + 1) :: [.blk 0, .at [1, 1, 1, 1, 1, 1]]) ⟨[(12, .v (.int .i64 (i : Int))), (11, .p 0 0), (9, .p 1 0), (7, .p 2 0), (5, .p 3 0), (2, .v (.int .i64 k)), (0, .v (.int .i64 so))], [.cells [.x 4 [], .o 5, .x 6 [], .x 7 []] 49, .cells [.v (vu64 (limb (fP so) 0 : Nat)), .v (vu64 (limb (fP so) 1 : Nat)), .v (vu64 (limb (fP so) 2 : Nat)), .v (vu64 (limb (fP so) 3 : Nat))] 56, .cells [.x 8 [], .x 9 [], .x 10 [], .x 11 []] 49, .cells [.v (vi64 c.1), .v (vi64 c.2), .v (vi64 c.3), .x 12 [], .x 13 [], .x 14 [], .x 15 []] 27, .ext false (.s false 1 s.1.length (cT s.1)), .tbl 44 56 4 s.2.length (tM so s.2 i) none, .ext false (.s false 1 s.3.length (cT s.3)), .ext false (.s false 4 s.4.length (cP s.4)), .ext false (.s false 1 s.1.length (cT s.1)), .ext false (.s false 1 s.2.length (cT s.2)), .ext false (.s false 1 s.3.length (cT s.3)), .ext false (.s false 4 s.4.length (cP s.4)), .ext false (.s false 7 c.4.length (cN c.4)), .ext false (.s false 1 c.5.length (cI c.5)), .ext false (.s false 2 c.6.length (cL c.6)), .ext false (.s false 2 c.7.length (cK c.7))]⟩
  | 0, i, hd => by
    have e := fltR_mod c s so k
    have l1 := fltR_len2 c s so k
    rw [show i = s.2.length by omega]
    refine FOk.frzTb 5 rfl ?_
    refine FOk.norm (ks := [12,11,9,7,5,2,0]) (nl := []) (st' := ⟨[(12, .v (.int .i64 (s.2.length : Int))), (11, .p 0 0), (9, .p 1 0), (7, .p 2 0), (5, .p 3 0), (2, .v (.int .i64 k)), (0, .v (.int .i64 so))], [.cells [.x 4 [], .x 5 [], .x 6 [], .x 7 []] 49, .cells [.v (vu64 (limb (fP so) 0 : Nat)), .v (vu64 (limb (fP so) 1 : Nat)), .v (vu64 (limb (fP so) 2 : Nat)), .v (vu64 (limb (fP so) 3 : Nat))] 56, .cells [.x 8 [], .x 9 [], .x 10 [], .x 11 []] 49, .cells [.v (vi64 c.1), .v (vi64 c.2), .v (vi64 c.3), .x 12 [], .x 13 [], .x 14 [], .x 15 []] 27, .ext false (.s false 1 s.1.length (cT s.1)), .ext false (.s false 1 s.2.length fun q _ => .s false 4 (tM so s.2 s.2.length q).1 (tM so s.2 s.2.length q).2), .ext false (.s false 1 s.3.length (cT s.3)), .ext false (.s false 4 s.4.length (cP s.4)), .ext false (.s false 1 s.1.length (cT s.1)), .ext false (.s false 1 s.2.length (cT s.2)), .ext false (.s false 1 s.3.length (cT s.3)), .ext false (.s false 4 s.4.length (cP s.4)), .ext false (.s false 7 c.4.length (cN c.4)), .ext false (.s false 1 c.5.length (cI c.5)), .ext false (.s false 2 c.6.length (cL c.6)), .ext false (.s false 2 c.7.length (cK c.7))]⟩) (by kernel_rfl) ?_
    refine FOk.cv (h' := St.heap ⟨[(12, .v (.int .i64 (s.2.length : Int))), (11, .p 0 0), (9, .p 1 0), (7, .p 2 0), (5, .p 3 0), (2, .v (.int .i64 k)), (0, .v (.int .i64 so))], [.cells [.x 4 [], .x 5 [], .x 6 [], .x 7 []] 49, .cells [.v (vu64 (limb (fP so) 0 : Nat)), .v (vu64 (limb (fP so) 1 : Nat)), .v (vu64 (limb (fP so) 2 : Nat)), .v (vu64 (limb (fP so) 3 : Nat))] 56, .cells [.x 8 [], .x 9 [], .x 10 [], .x 11 []] 49, .cells [.v (vi64 c.1), .v (vi64 c.2), .v (vi64 c.3), .x 12 [], .x 13 [], .x 14 [], .x 15 []] 27, .ext false (.s false 1 s.1.length (cT s.1)), .ext false (.s false 1 (modT so s.2).length (cT (modT so s.2))), .ext false (.s false 1 s.3.length (cT s.3)), .ext false (.s false 4 s.4.length (cP s.4)), .ext false (.s false 1 s.1.length (cT s.1)), .ext false (.s false 1 s.2.length (cT s.2)), .ext false (.s false 1 s.3.length (cT s.3)), .ext false (.s false 4 s.4.length (cP s.4)), .ext false (.s false 7 c.4.length (cN c.4)), .ext false (.s false 1 c.5.length (cI c.5)), .ext false (.s false 2 c.6.length (cL c.6)), .ext false (.s false 2 c.7.length (cK c.7))]⟩) ?_ ⟨HE.refl _, HE.refl _, HE.refl _, HE.refl _, HE.refl _, ⟨rfl, rfl, rfl, (List.length_map _).symm, fun q hq j hj => tM_cT so s.2 q j hq⟩, HE.refl _, HE.refl _, HE.refl _, HE.refl _, HE.refl _, HE.refl _, HE.refl _, HE.refl _, HE.refl _, HE.refl _, trivial⟩
    have el : (modT so s.2).length = s.2.length := List.length_map _
    have el2 : ¬ ((s.2.length : Int) < ((modS so s).2.length : Int)) := by
      show ¬ ((s.2.length : Int) < ((modT so s.2).length : Int))
      omega
    refine FOk.rnd (run_sound hm 60 ((smE c s (modS so s) so k s.2.length 0 _ _).mpr ⟨?_⟩))
    rw [cond_dec, if_neg el2]
    refine lC_mk c hc (lS_mk s hs (lF_mk c hc s hs (lC_mk c hc (lF_mk c hc (modS so s) (modS_ok hso hs) ?_))))
    rw [e]
    refine ⟨⟨_, _, rfl, IsC.refl _ _ _, rfl, IsC.refl _ _ _, by omega, ?_⟩⟩
    rw [decide_eq_true rfl, cond_true, beq_self_eq_true]
    exact hq
  | d + 1, i, hd => by
    have hi : i < s.2.length := by omega
    have h1 := hs.a.2
    refine FOk.rnd (run_sound hm 60 ((smO c s so k (tM so s.2 i) s.2.length i (d + 1) _ _).mpr ⟨?_⟩))
    rw [cond_dec, if_pos (by omega)]
    refine FOk.focus 5 i rfl hi ?_
    rw [tM_at]
    refine FOk.norm (ks := [13,12,11,9,7,5,2,0]) (nl := []) (st' := ⟨[(13, .v (.int .i64 (0 : Int))), (12, .v (.int .i64 (i : Int))), (11, .p 0 0), (9, .p 1 0), (7, .p 2 0), (5, .p 3 0), (2, .v (.int .i64 k)), (0, .v (.int .i64 so))], [.cells [.x 4 [], .o 5, .x 6 [], .x 7 []] 49, .cells [.v (vu64 (limb (fP so) 0 : Nat)), .v (vu64 (limb (fP so) 1 : Nat)), .v (vu64 (limb (fP so) 2 : Nat)), .v (vu64 (limb (fP so) 3 : Nat))] 56, .cells [.x 8 [], .x 9 [], .x 10 [], .x 11 []] 49, .cells [.v (vi64 c.1), .v (vi64 c.2), .v (vi64 c.3), .x 12 [], .x 13 [], .x 14 [], .x 15 []] 27, .ext false (.s false 1 s.1.length (cT s.1)), .tbl 44 56 4 s.2.length (tM so s.2 i) (some (i, 16)), .ext false (.s false 1 s.3.length (cT s.3)), .ext false (.s false 4 s.4.length (cP s.4)), .ext false (.s false 1 s.1.length (cT s.1)), .ext false (.s false 1 s.2.length (cT s.2)), .ext false (.s false 1 s.3.length (cT s.3)), .ext false (.s false 4 s.4.length (cP s.4)), .ext false (.s false 7 c.4.length (cN c.4)), .ext false (.s false 1 c.5.length (cI c.5)), .ext false (.s false 2 c.6.length (cL c.6)), .ext false (.s false 2 c.7.length (cK c.7)), .rowc 56 4 (gT s.2 i).length (.fn (cE (gT s.2 i)))]⟩) (by kernel_rfl) ?_
    have h0 := smI_loop c hc s hs so k hso Q hq i (d + 1) hi (smO_loop c hc s hs so k hso Q hq d (i + 1) (by omega)) (gT s.2 i).length 0 (by omega)
    rw [mixE_0] at h0
    exact FOk.loop ((gT s.2 i).length + 1) (by kernel_rfl) h0
theorem bSm : Try.f8.body.isSome = true := by kernel_rfl
theorem nSm (c : Cir) (so k : Int) : Nat.ble ([.v (.int .i64 so), .agg [.v (.int .i64 c.fx), .v (.int .i64 c.ad), .v (.int .i64 c.ins), .x 0 [], .x 1 [], .x 2 [], .x 3 []], .v (.int .i64 k), .agg [.x 4 [], .x 5 [], .x 6 [], .x 7 []]] : List SV).length Try.f8.ntmps = true := by kernel_rfl
theorem smods_ok (c : Cir) (hc : c.ok) (s : Sht) (hs : s.ok) (so k : Int) (Q : SV → List HO → Prop) (hq : Q (.v (.bool true)) []) : FnOk Try.prog 8 [.v (.int .i64 so), .agg [.v (.int .i64 c.fx), .v (.int .i64 c.ad), .v (.int .i64 c.ins), .x 0 [], .x 1 [], .x 2 [], .x 3 []], .v (.int .i64 k), .agg [.x 4 [], .x 5 [], .x 6 [], .x 7 []]] [.ext false (.s false 7 c.nodes.length (cN c.nodes)), .ext false (.s false 1 c.gates.length (cI c.gates)), .ext false (.s false 2 c.looks.length (cL c.looks)), .ext false (.s false 2 c.eqs.length (cK c.eqs)), .ext false (.s false 1 s.fx.length (cT s.fx)), .ext false (.s false 1 s.ad.length (cT s.ad)), .ext false (.s false 1 s.is.length (cT s.is)), .ext false (.s false 4 s.cp.length (cP s.cp))] Q := by
  refine fn_of_ok Try.func8 bSm ?_ ?_
  · exact nSm c so k
  refine run_sound hm 60 ((smS c s so k _ _).mpr ⟨?_⟩)
  refine lF_mk c hc s hs (cond_intro (fun _ => hq) (fun _ => ?_))
  rw [cond_dec, cond_dec]
  refine ite_intro (fun _ => hq) (fun h0 => ite_intro (fun _ => hq) (fun h1 => ?_))
  have hso : so = 0 ∨ so = 1 := by omega
  refine And.intro (fun _ => by omega) (lS_mk s hs (And.intro (fun _ => by omega) ?_))
  refine FOk.frzTb 4 rfl (FOk.frzTb 6 rfl (FOk.frzH 7 rfl ?_))
  have h2 := smO_loop c hc s hs so k hso Q hq s.2.length 0 (by omega)
  rw [tM_0] at h2
  refine FOk.norm (ks := [12,11,9,7,5,2,0]) (nl := []) (st' := ⟨[(12, .v (.int .i64 (0 : Int))), (11, .p 0 0), (9, .p 1 0), (7, .p 2 0), (5, .p 3 0), (2, .v (.int .i64 k)), (0, .v (.int .i64 so))], [.cells [.x 4 [], .o 5, .x 6 [], .x 7 []] 49, .cells [.v (vu64 (limb (fP so) 0 : Nat)), .v (vu64 (limb (fP so) 1 : Nat)), .v (vu64 (limb (fP so) 2 : Nat)), .v (vu64 (limb (fP so) 3 : Nat))] 56, .cells [.x 8 [], .x 9 [], .x 10 [], .x 11 []] 49, .cells [.v (vi64 c.1), .v (vi64 c.2), .v (vi64 c.3), .x 12 [], .x 13 [], .x 14 [], .x 15 []] 27, .ext false (.s false 1 s.1.length (cT s.1)), .tbl 44 56 4 s.2.length (tC s.2) none, .ext false (.s false 1 s.3.length (cT s.3)), .ext false (.s false 4 s.4.length (cP s.4)), .ext false (.s false 1 s.1.length (cT s.1)), .ext false (.s false 1 s.2.length (cT s.2)), .ext false (.s false 1 s.3.length (cT s.3)), .ext false (.s false 4 s.4.length (cP s.4)), .ext false (.s false 7 c.4.length (cN c.4)), .ext false (.s false 1 c.5.length (cI c.5)), .ext false (.s false 2 c.6.length (cL c.6)), .ext false (.s false 2 c.7.length (cK c.7))]⟩) (by kernel_rfl) ?_
  exact FOk.loop (s.2.length + 1) (by kernel_rfl) h2
end Go.Proofs.Ytlmjdcbhpffanaa
/- Arguments' types: sheets. -/
namespace Go.Pl
open Go.Sx
noncomputable def shtCell (s : Sht) (j : Nat) : Cell :=
  match j with
  | 0 => .s false 1 s.fx.length (cT s.fx)
  | 1 => .s false 1 s.ad.length (cT s.ad)
  | 2 => .s false 1 s.is.length (cT s.is)
  | 3 => .s false 4 s.cp.length (cP s.cp)
  | _ => .v undef
end Go.Pl
namespace Go.Proofs.Ytlmjdcbhpffanaa
open Go.Sx Go.Pl Go.RowKit Go.ChangeShapes Go.WideShapes Go.ChangeAt
set_option linter.unusedVariables false
set_option maxRecDepth 100000
theorem by44 : Try.prog.bytesOf 44 = 24 := by kernel_rfl
theorem u31 : Try.prog.underlying 31 = some (.slice 44) := by kernel_rfl
theorem c31 : Try.prog.cellsOf 31 = 1 := by kernel_rfl
theorem cod_t : Cod Try.prog 31 1 (fun (l : List (List Nat)) _ => .s false 1 l.length (cT l)) okT := (Cod.slice cod_es u31 c31 []).mono fun l h => by
  obtain ⟨h1, h2⟩ := h
  rw [by44, reachBytes] at h2
  exact ⟨h1, h2⟩
theorem u98 : Try.prog.underlying 98 = some (.struct #[⟨"Col", 3, 0, false, "", "", 0⟩, ⟨"Row", 3, 1, false, "", "", 8⟩]) := by kernel_rfl
theorem c98 : Try.prog.cellsOf 98 = 2 := by kernel_rfl
theorem cod_ce : Cod Try.prog 98 2 kCell (fun x => i64 x.1 ∧ i64 x.2) where
  cells := c98
  opn := by
    intro H enc w base sp hd n cs d p hl h hw
    obtain ⟨xs, k, _, hx, _, hxl, hf⟩ := DataW.trod_struct u98 h
    simp only [Prod.mk.injEq] at hx
    obtain ⟨rfl, rfl⟩ := hx
    have hW : ∀ x ∈ DataW.weightsEach Try.prog [3, 3] (xs.map (·.1)), x ≤ reachBytes := fun x hx => hw x (by simp only [DataW.weights, u98]; exact hx)
    have hxl : xs.length = 2 := hxl
    obtain ⟨x0, o0, r0⟩ := cod_i.field (off := 0) (hf 0 _ rfl) (by omega) hW rfl (by omega)
    obtain ⟨x1, o1, r1⟩ := cod_i.field (off := 1) (hf 1 _ rfl) (by omega) hW rfl (by omega)
    refine ⟨(x0, x1), ⟨o0, o1⟩, fun j hj => ?_⟩
    match j, hj with
    | 0, _ => exact r0 0 (by omega)
    | 1, _ => exact r1 0 (by omega)
theorem u103 : Try.prog.underlying 103 = some (.struct #[⟨"A", 98, 0, false, "", "", 0⟩, ⟨"B", 98, 2, false, "", "", 16⟩]) := by kernel_rfl
theorem c103 : Try.prog.cellsOf 103 = 4 := by kernel_rfl
theorem cod_cp : Cod Try.prog 103 4 pCell (fun x => i64 x.1 ∧ i64 x.2.1 ∧ i64 x.2.2.1 ∧ i64 x.2.2.2) where
  cells := c103
  opn := by
    intro H enc w base sp hd n cs d p hl h hw
    obtain ⟨xs, k, _, hx, _, hxl, hf⟩ := DataW.trod_struct u103 h
    simp only [Prod.mk.injEq] at hx
    obtain ⟨rfl, rfl⟩ := hx
    have hW : ∀ x ∈ DataW.weightsEach Try.prog [98, 98] (xs.map (·.1)), x ≤ reachBytes := fun x hx => hw x (by simp only [DataW.weights, u103]; exact hx)
    have hxl : xs.length = 2 := hxl
    obtain ⟨x0, o0, r0⟩ := cod_ce.field (off := 0) (hf 0 _ rfl) (by omega) hW rfl (by omega)
    obtain ⟨x1, o1, r1⟩ := cod_ce.field (off := 2) (hf 1 _ rfl) (by omega) hW rfl (by omega)
    refine ⟨(x0.1, x0.2, x1.1, x1.2), ⟨o0.1, o0.2, o1.1, o1.2⟩, fun j hj => ?_⟩
    match j, hj with
    | 0, _ => exact r0 0 (by omega)
    | 1, _ => exact r0 1 (by omega)
    | 2, _ => exact r1 0 (by omega)
    | 3, _ => exact r1 1 (by omega)
theorem by103 : Try.prog.bytesOf 103 = 32 := by kernel_rfl
theorem u47 : Try.prog.underlying 47 = some (.slice 103) := by kernel_rfl
theorem c47 : Try.prog.cellsOf 47 = 1 := by kernel_rfl
theorem cod_cps : Cod Try.prog 47 1 (fun (l : List (Int × Int × Int × Int)) _ => .s false 4 l.length (cP l)) (fun l => (∀ x ∈ l, i64 x.1 ∧ i64 x.2.1 ∧ i64 x.2.2.1 ∧ i64 x.2.2.2) ∧ l.length * 32 ≤ 140737488351232) := (Cod.slice cod_cp u47 c47 dP).mono fun l h => by
  obtain ⟨h1, h2⟩ := h
  rw [by103, reachBytes] at h2
  exact ⟨h1, h2⟩
theorem u49 : Try.prog.underlying 49 = some (.struct #[⟨"Fixed", 31, 0, false, "", "", 0⟩, ⟨"Advice", 31, 1, false, "", "", 24⟩, ⟨"Instance", 31, 2, false, "", "", 48⟩, ⟨"Copies", 47, 3, false, "", "", 72⟩]) := by kernel_rfl
theorem c49 : Try.prog.cellsOf 49 = 4 := by kernel_rfl
theorem cod_s : Cod Try.prog 49 4 shtCell Sht.ok where
  cells := c49
  opn := by
    intro H enc w base sp hd n cs d p hl h hw
    obtain ⟨xs, k, _, hx, _, hxl, hf⟩ := DataW.trod_struct u49 h
    simp only [Prod.mk.injEq] at hx
    obtain ⟨rfl, rfl⟩ := hx
    have hW : ∀ x ∈ DataW.weightsEach Try.prog [31, 31, 31, 47] (xs.map (·.1)), x ≤ reachBytes := fun x hx => hw x (by simp only [DataW.weights, u49]; exact hx)
    have hxl : xs.length = 4 := hxl
    obtain ⟨x0, o0, r0⟩ := cod_t.field (off := 0) (hf 0 _ rfl) (by omega) hW rfl (by omega)
    obtain ⟨x1, o1, r1⟩ := cod_t.field (off := 1) (hf 1 _ rfl) (by omega) hW rfl (by omega)
    obtain ⟨x2, o2, r2⟩ := cod_t.field (off := 2) (hf 2 _ rfl) (by omega) hW rfl (by omega)
    obtain ⟨x3, o3, r3⟩ := cod_cps.field (off := 3) (hf 3 _ rfl) (by omega) hW rfl (by omega)
    refine ⟨⟨x0, x1, x2, x3⟩, ⟨o0, o1, o2, o3⟩, fun j hj => ?_⟩
    match j, hj with
    | 0, _ => exact r0 0 (by omega)
    | 1, _ => exact r1 0 (by omega)
    | 2, _ => exact r2 0 (by omega)
    | 3, _ => exact r3 0 (by omega)
end Go.Proofs.Ytlmjdcbhpffanaa
