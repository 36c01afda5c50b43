/- append onto a row of the function's own, of whatever is appended. -/
import Derived.Test.YtpghmnpbfaichaaSx7
import Derived.Deep.AppendSrc
import Derived.Laws.MakeOwn
namespace Go.Sx
open Go.RowKit

section
variable {P : Program} (w : World)
theorem run_append_room_row (t tx ty e : TypeId) (i : TypeInfo) (ht : P.underlying t = some (.slice e)) (hi : P.info? e = some i) (g sLen sCap : Nat) (cur : Array Value) (hg : w.heap[g]? = some (.cells cur e (0, 0)))
    (x : Value) (m : Nat) (news : List Value) (hs : Src P i.size tx x m news w) (hroom : sLen + m ≤ sCap) (hfit : sLen * i.size + news.length ≤ cur.size) :
    (Builtin.append_ #[t, tx] ty #[.slice (some ⟨g, 0, none⟩) sLen sCap, x]).run P w =
      .ok (.slice (some ⟨g, 0, none⟩) (sLen + m) sCap) (w.setRow g (cur.toList.take (sLen * i.size) ++ news ++ cur.toList.drop (sLen * i.size + news.length)).toArray) := by
  have hst := run_storeCells_at P g (sLen * i.size) e news 0 cur w hg (by simpa using hfit) hs.one
  simp only [Nat.add_zero] at hst
  rcases hs.kind with ⟨e', hk⟩ | hk <;> simp [Builtin.append_, run_underlying ht, run_underlying hk, sizeOf, typeInfo, hi, hs.len, hroom, hs.cells, Addr.add_lit, hst]

theorem nextslicecap_le (need old : Nat) (h : old < need) : Builtin.nextslicecap need old ≤ 2 * need := by
  unfold Builtin.nextslicecap
  split
  · omega
  · split
    · omega
    · have key : ∀ (r c : Nat), c < 2 * need → 256 ≤ c → Builtin.growBy need r c ≤ 2 * need := by
        intro r
        induction r with
        | zero => intro c hc _; unfold Builtin.growBy; omega
        | succ r ih =>
          intro c hc h2
          unfold Builtin.growBy
          split
          · omega
          · by_cases hh : c + (c + 768) / 4 < 2 * need
            · exact ih _ hh (by omega)
            · have : Builtin.growBy need r (c + (c + 768) / 4) = c + (c + 768) / 4 := by
                cases r with
                | zero => rfl
                | succ r => unfold Builtin.growBy; rw [if_pos (by omega)]
              rw [this]
              omega
      exact key 4 old (by omega) (by omega)

theorem append_own_src (t tx ty e : TypeId) (i : TypeInfo) (z : Value) (ht : P.underlying t = some (.slice e)) (hi : P.info? e = some i) (hz : i.zero = some z) (hzs : z.cells.size = i.size)
    (v : Value) (n : Nat) (xs : List Value) (hown : w.ownsRow 0 e i.size v n xs) (x : Value) (m : Nat) (news : List Value) (hs : Src P i.size tx x m news w)
    (hbytes : (n + m) * i.bytes ≤ 140737488355328) (h63 : n + m ≤ 140737488355328) :
    ∃ v' w', (Builtin.append_ #[t, tx] ty #[v, x]).run P w = .ok v' w' ∧ w'.ownsRow 0 e i.size v' (n + m) (xs ++ news) ∧ w.grownBy w' v.ownBlock ∧ (∀ b, v'.ownBlock = some b → w.heap.size ≤ b ∨ v.ownBlock = some b) := by
  have hlen : (xs ++ news).length = (n + m) * i.size := by rw [List.length_append, hown.1, hs.newsLen, Nat.add_mul]
  have grow : ∀ (base : Option Addr) (old : Nat), (Builtin.firstCells i.size n (.slice base n old)).run P w.drew = .ok xs.toArray w.drew → old < n + m → ∀ row,
      ∃ v' w', (Builtin.append_ #[t, tx] ty #[.slice base n old, x]).run P w = .ok v' w' ∧ w'.ownsRow 0 e i.size v' (n + m) (xs ++ news) ∧ w.grownBy w' row ∧ (∀ b, v'.ownBlock = some b → w.heap.size ≤ b) := by
    intro base old hold ho row
    have hcap := nextslicecap_le (n + m) old ho
    have hr := run_append_grow_src (P := P) w t tx ty e i z ht hi hz base n old xs hold x m news hs ho (by omega)
      (Nat.le_trans (Nat.mul_le_mul_right _ hcap) (by rw [Nat.mul_assoc]; omega))
    refine ⟨_, _, hr, ?_, ?_, ?_⟩
    · have hge := grownCap_ge w (n + m) old e
      have hcm : grownCap w (n + m) old e ≤ maxLen := grownCap_le_maxLen w (n + m) old e (by unfold maxLen; omega)
      refine ⟨hlen, .inr ⟨w.heap.size, _, _, rfl, Nat.zero_le _, heap_alloc_new w.drew _, hge, hcm, ?_, ?_⟩⟩
      · simp only [Array.size_append, List.size_toArray, size_zeroCells, hzs, hlen, ← Nat.add_mul]
        congr 1
        omega
      · simp only [Array.toList_append]
        rw [← hlen]
        exact List.take_left
    · exact ⟨rfl, rfl, rfl, by simp, fun k hk _ => heap_alloc_old w.drew _ k hk⟩
    · intro b hb
      simp only [Value.ownBlock, Option.some.injEq] at hb
      omega
  rcases hown.2 with ⟨rfl, rfl⟩ | ⟨g, cap, cur, rfl, hbg, hg, hnc, hcm, hcs, htake⟩
  · have hx : xs = [] := List.eq_nil_of_length_eq_zero (by simpa using hown.1)
    subst hx
    by_cases hm : m = 0
    · subst hm
      have hn : news = [] := List.eq_nil_of_length_eq_zero (by simpa using hs.newsLen)
      subst hn
      refine ⟨.slice none 0 0, w, ?_, World.ownsRow_nil w 0 e i.size, ⟨rfl, rfl, rfl, Nat.le_refl _, fun _ _ _ => rfl⟩, fun b hb => by cases hb⟩
      rcases hs.kind with ⟨e', hk⟩ | hk <;> simp [Builtin.append_, run_underlying ht, run_underlying hk, sizeOf, typeInfo, hi, hs.len, hs.cells]
    · obtain ⟨v', w', r1, r2, r3, r4⟩ := grow none 0 (run_firstCells_none w.drew i.size 0 0 0) (by omega) (Value.ownBlock (.slice none 0 0))
      exact ⟨v', w', r1, r2, r3, fun b hb => .inl (r4 b hb)⟩
  · by_cases hroom : n + m ≤ cap
    · have hfit : n * i.size + news.length ≤ cur.size := by
        rw [hs.newsLen, hcs, ← Nat.add_mul]
        exact Nat.mul_le_mul_right _ hroom
      refine ⟨_, _, run_append_room_row w t tx ty e i ht hi g n cap cur hg x m news hs hroom hfit, ?_, ?_, fun b hb => .inr hb⟩
      · refine ⟨hlen, .inr ⟨g, cap, _, rfl, hbg, setRow_heap w g cur _ e (0, 0) hg, hroom, hcm, ?_, ?_⟩⟩
        · rw [← hcs]
          simp
          omega
        · have hnl : (cur.toList.take (n * i.size)).length = n * i.size := by
            rw [htake, hown.1]
          simp only []
          rw [htake]
          have : (n + m) * i.size = (xs ++ news).length := hlen.symm
          rw [this]
          exact List.take_left
      · refine ⟨rfl, rfl, rfl, by simp, fun k hk hne => setRow_other w g k _ (fun hh => hne (by subst hh; rfl))⟩
    · have hold : (Builtin.firstCells i.size n (.slice (some ⟨g, 0, none⟩) n cap)).run P w.drew = .ok xs.toArray w.drew := by
        refine run_firstCells_some w.drew i.size n ⟨g, 0, none⟩ n cap xs (by rw [hown.1]) ?_
        intro j u hu
        rw [World.cell?_drew]
        exact hown.cells rfl j u hu
      obtain ⟨v', w', r1, r2, r3, r4⟩ := grow (some ⟨g, 0, none⟩) cap hold (by omega) (Value.ownBlock (.slice (some ⟨g, 0, none⟩) n cap))
      exact ⟨v', w', r1, r2, r3, fun b hb => .inl (r4 b hb)⟩
end
end Go.Sx
