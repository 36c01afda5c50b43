/- What a node is read as; what a step uses; the test of a place. -/
import Derived.Test.YtpghmnpbfaichaaBase
import Derived.Test.YtpghmnpbfaichaaSx23
namespace Go.Pl
open Go.Sx
/-- A node as a step, and whether it is one. -/
def rdV (op a b : Int) (l0 l1 l2 l3 : Value) : Value :=
  if op = 1 then .tuple #[.iface 102 (.agg #[l0, l1, l2, l3]), .bool true]
  else if 2 ≤ op ∧ op ≤ 4 then .tuple #[.iface 103 (.agg #[.int .i64 op, .int .i64 a, .int .i64 b]), .bool true]
  else if op = 5 then .tuple #[.iface 129 (.agg #[.int .i64 a]), .bool true]
  else if op = 6 then .tuple #[.iface 131 (.agg #[.int .i64 a, .int .i64 b]), .bool true]
  else if op = 7 then .tuple #[.iface 132 (.agg #[.int .i64 a, .int .i64 b]), .bool true]
  else if op = 8 then .tuple #[.iface 134 (.agg #[.int .i64 a, l0, l1, l2, l3]), .bool true]
  else .tuple #[.nilIface, .bool false]
theorem rd_c {op : Int} (a b : Int) (l0 l1 l2 l3 : Value) (h : op = 1) : rdV op a b l0 l1 l2 l3 = .tuple #[.iface 102 (.agg #[l0, l1, l2, l3]), .bool true] := by
  rw [rdV, if_pos h]
theorem rd_q {op : Int} (a b : Int) (l0 l1 l2 l3 : Value) (h : 2 ≤ op ∧ op ≤ 4) : rdV op a b l0 l1 l2 l3 = .tuple #[.iface 103 (.agg #[.int .i64 op, .int .i64 a, .int .i64 b]), .bool true] := by
  rw [rdV, if_neg (by omega), if_pos h]
theorem rd_n {op : Int} (a b : Int) (l0 l1 l2 l3 : Value) (h : op = 5) : rdV op a b l0 l1 l2 l3 = .tuple #[.iface 129 (.agg #[.int .i64 a]), .bool true] := by
  rw [rdV, if_neg (by omega), if_neg (by omega), if_pos h]
theorem rd_a {op : Int} (a b : Int) (l0 l1 l2 l3 : Value) (h : op = 6) : rdV op a b l0 l1 l2 l3 = .tuple #[.iface 131 (.agg #[.int .i64 a, .int .i64 b]), .bool true] := by
  rw [rdV, if_neg (by omega), if_neg (by omega), if_neg (by omega), if_pos h]
theorem rd_m {op : Int} (a b : Int) (l0 l1 l2 l3 : Value) (h : op = 7) : rdV op a b l0 l1 l2 l3 = .tuple #[.iface 132 (.agg #[.int .i64 a, .int .i64 b]), .bool true] := by
  rw [rdV, if_neg (by omega), if_neg (by omega), if_neg (by omega), if_neg (by omega), if_pos h]
theorem rd_s {op : Int} (a b : Int) (l0 l1 l2 l3 : Value) (h : op = 8) : rdV op a b l0 l1 l2 l3 = .tuple #[.iface 134 (.agg #[.int .i64 a, l0, l1, l2, l3]), .bool true] := by
  rw [rdV, if_neg (by omega), if_neg (by omega), if_neg (by omega), if_neg (by omega), if_neg (by omega), if_pos h]
theorem rd_x {op : Int} (a b : Int) (l0 l1 l2 l3 : Value) (h : ¬ (1 ≤ op ∧ op ≤ 8)) : rdV op a b l0 l1 l2 l3 = .tuple #[.nilIface, .bool false] := by
  rw [rdV, if_neg (by omega), if_neg (by omega), if_neg (by omega), if_neg (by omega), if_neg (by omega), if_neg (by omega)]
/-- A truth that the kernel does not look into. -/
noncomputable def hidQ (a : Bool) : Bool := Classical.choose (⟨a, rfl⟩ : ∃ x : Bool, x = a)
theorem hidQ_eq (a : Bool) : hidQ a = a := Classical.choose_spec (⟨a, rfl⟩ : ∃ x : Bool, x = a)
/-- A whole number that the kernel does not look into. -/
noncomputable def hidZ (a : Int) : Int := Classical.choose (⟨a, rfl⟩ : ∃ x : Int, x = a)
theorem hidZ_eq (a : Int) : hidZ a = a := Classical.choose_spec (⟨a, rfl⟩ : ∃ x : Int, x = a)
/-- Is a place outside of those ahead? -/
def outB (i j : Int) : Bool := decide (j < 0 ∨ i ≤ j)
def unI : Value → Int
  | .int _ x => x
  | _ => 0
end Go.Pl
namespace Go.Proofs.Ytpghmnpbfaichaa
open Go.Sx Go.Pl Go.RowKit
theorem run74c (op a b : Int) (l0 l1 l2 l3 : Value) : (((xgo Try.prog X (bodyOf Try.f74) 54 C0 [] 60 [.t] (.nil) [.at []] ⟨argsTm 0 [.agg (Array.mk [.int .i64 op, .int .i64 a, .int .i64 b, l0, l1, l2, l3])], []⟩ [] []).bind (ends Try.prog Try.f74.results.toList)).bind plainE) =
  some [EndP.mk [] [fun _ => (op == (1 : Int)) = true] (Res.v (Value.tuple (Array.mk [Value.iface (102 : Nat) (Value.agg (Array.mk [l0, l1, l2, l3])), Value.bool true])))]
  := by kernel_rfl

theorem run74q2 (op a b : Int) (l0 l1 l2 l3 : Value) : (((xgo Try.prog X (bodyOf Try.f74) 54 C0 [] 60 [.f, .t, .t] (.nil) [.at []] ⟨argsTm 0 [.agg (Array.mk [.int .i64 op, .int .i64 a, .int .i64 b, l0, l1, l2, l3])], []⟩ [] []).bind (ends Try.prog Try.f74.results.toList)).bind plainE) =
  some [EndP.mk [] [fun _ => (op == (1 : Int)) = false,
    fun _ => (op == (2 : Int)) = true,
    fun _ => (op == (2 : Int)) = true] (Res.v (Value.tuple (Array.mk [Value.iface (103 : Nat) (Value.agg (Array.mk [Value.int IntKind.i64 op, Value.int IntKind.i64 a, Value.int IntKind.i64 b])), Value.bool true])))]
  := by kernel_rfl

theorem run74q3 (op a b : Int) (l0 l1 l2 l3 : Value) : (((xgo Try.prog X (bodyOf Try.f74) 54 C0 [] 60 [.f, .f, .t, .t] (.nil) [.at []] ⟨argsTm 0 [.agg (Array.mk [.int .i64 op, .int .i64 a, .int .i64 b, l0, l1, l2, l3])], []⟩ [] []).bind (ends Try.prog Try.f74.results.toList)).bind plainE) =
  some [EndP.mk [] [fun _ => (op == (1 : Int)) = false,
    fun _ => (op == (2 : Int)) = false,
    fun _ => (op == (3 : Int)) = true,
    fun _ => (op == (3 : Int)) = true] (Res.v (Value.tuple (Array.mk [Value.iface (103 : Nat) (Value.agg (Array.mk [Value.int IntKind.i64 op, Value.int IntKind.i64 a, Value.int IntKind.i64 b])), Value.bool true])))]
  := by kernel_rfl

theorem run74q4 (op a b : Int) (l0 l1 l2 l3 : Value) : (((xgo Try.prog X (bodyOf Try.f74) 54 C0 [] 60 [.f, .f, .f, .t] (.nil) [.at []] ⟨argsTm 0 [.agg (Array.mk [.int .i64 op, .int .i64 a, .int .i64 b, l0, l1, l2, l3])], []⟩ [] []).bind (ends Try.prog Try.f74.results.toList)).bind plainE) =
  some [EndP.mk [] [fun _ => (op == (1 : Int)) = false,
    fun _ => (op == (2 : Int)) = false,
    fun _ => (op == (3 : Int)) = false,
    fun _ => (op == (4 : Int)) = true] (Res.v (Value.tuple (Array.mk [Value.iface (103 : Nat) (Value.agg (Array.mk [Value.int IntKind.i64 op, Value.int IntKind.i64 a, Value.int IntKind.i64 b])), Value.bool true])))]
  := by kernel_rfl

theorem run74n (op a b : Int) (l0 l1 l2 l3 : Value) : (((xgo Try.prog X (bodyOf Try.f74) 54 C0 [] 60 [.f, .f, .f, .f, .t] (.nil) [.at []] ⟨argsTm 0 [.agg (Array.mk [.int .i64 op, .int .i64 a, .int .i64 b, l0, l1, l2, l3])], []⟩ [] []).bind (ends Try.prog Try.f74.results.toList)).bind plainE) =
  some [EndP.mk [] [fun _ => (op == (1 : Int)) = false,
    fun _ => (op == (2 : Int)) = false,
    fun _ => (op == (3 : Int)) = false,
    fun _ => (op == (4 : Int)) = false,
    fun _ => (op == (5 : Int)) = true] (Res.v (Value.tuple (Array.mk [Value.iface (129 : Nat) (Value.agg (Array.mk [Value.int IntKind.i64 a])), Value.bool true])))]
  := by kernel_rfl

theorem run74a (op a b : Int) (l0 l1 l2 l3 : Value) : (((xgo Try.prog X (bodyOf Try.f74) 54 C0 [] 60 [.f, .f, .f, .f, .f, .t] (.nil) [.at []] ⟨argsTm 0 [.agg (Array.mk [.int .i64 op, .int .i64 a, .int .i64 b, l0, l1, l2, l3])], []⟩ [] []).bind (ends Try.prog Try.f74.results.toList)).bind plainE) =
  some [EndP.mk [] [fun _ => (op == (1 : Int)) = false,
    fun _ => (op == (2 : Int)) = false,
    fun _ => (op == (3 : Int)) = false,
    fun _ => (op == (4 : Int)) = false,
    fun _ => (op == (5 : Int)) = false,
    fun _ => (op == (6 : Int)) = true] (Res.v (Value.tuple (Array.mk [Value.iface (131 : Nat) (Value.agg (Array.mk [Value.int IntKind.i64 a, Value.int IntKind.i64 b])), Value.bool true])))]
  := by kernel_rfl

theorem run74m (op a b : Int) (l0 l1 l2 l3 : Value) : (((xgo Try.prog X (bodyOf Try.f74) 54 C0 [] 60 [.f, .f, .f, .f, .f, .f, .t] (.nil) [.at []] ⟨argsTm 0 [.agg (Array.mk [.int .i64 op, .int .i64 a, .int .i64 b, l0, l1, l2, l3])], []⟩ [] []).bind (ends Try.prog Try.f74.results.toList)).bind plainE) =
  some [EndP.mk [] [fun _ => (op == (1 : Int)) = false,
    fun _ => (op == (2 : Int)) = false,
    fun _ => (op == (3 : Int)) = false,
    fun _ => (op == (4 : Int)) = false,
    fun _ => (op == (5 : Int)) = false,
    fun _ => (op == (6 : Int)) = false,
    fun _ => (op == (7 : Int)) = true] (Res.v (Value.tuple (Array.mk [Value.iface (132 : Nat) (Value.agg (Array.mk [Value.int IntKind.i64 a, Value.int IntKind.i64 b])), Value.bool true])))]
  := by kernel_rfl

theorem run74s (op a b : Int) (l0 l1 l2 l3 : Value) : (((xgo Try.prog X (bodyOf Try.f74) 54 C0 [] 60 [.f, .f, .f, .f, .f, .f, .f, .t] (.nil) [.at []] ⟨argsTm 0 [.agg (Array.mk [.int .i64 op, .int .i64 a, .int .i64 b, l0, l1, l2, l3])], []⟩ [] []).bind (ends Try.prog Try.f74.results.toList)).bind plainE) =
  some [EndP.mk [] [fun _ => (op == (1 : Int)) = false,
    fun _ => (op == (2 : Int)) = false,
    fun _ => (op == (3 : Int)) = false,
    fun _ => (op == (4 : Int)) = false,
    fun _ => (op == (5 : Int)) = false,
    fun _ => (op == (6 : Int)) = false,
    fun _ => (op == (7 : Int)) = false,
    fun _ => (op == (8 : Int)) = true] (Res.v (Value.tuple (Array.mk [Value.iface (134 : Nat) (Value.agg (Array.mk [Value.int IntKind.i64 a, l0, l1, l2, l3])), Value.bool true])))]
  := by kernel_rfl

theorem run74x (op a b : Int) (l0 l1 l2 l3 : Value) : (((xgo Try.prog X (bodyOf Try.f74) 54 C0 [] 60 [.f, .f, .f, .f, .f, .f, .f, .f] (.nil) [.at []] ⟨argsTm 0 [.agg (Array.mk [.int .i64 op, .int .i64 a, .int .i64 b, l0, l1, l2, l3])], []⟩ [] []).bind (ends Try.prog Try.f74.results.toList)).bind plainE) =
  some [EndP.mk [] [fun _ => (op == (1 : Int)) = false,
    fun _ => (op == (2 : Int)) = false,
    fun _ => (op == (3 : Int)) = false,
    fun _ => (op == (4 : Int)) = false,
    fun _ => (op == (5 : Int)) = false,
    fun _ => (op == (6 : Int)) = false,
    fun _ => (op == (7 : Int)) = false,
    fun _ => (op == (8 : Int)) = false] (Res.v (Value.tuple (Array.mk [Value.nilIface, Value.bool false])))]
  := by kernel_rfl

theorem run121 (a : Int) : (((xgo Try.prog X (bodyOf Try.f121) 6 C0 [] 60 [] (.nil) [.at []] ⟨argsTm 0 [.agg (Array.mk [.int .i64 a])], []⟩ [] []).bind (ends Try.prog Try.f121.results.toList)).bind plainE) =
  some [EndP.mk [] [fun _ => [SV.v (Value.int IntKind.i64 a)] = [SV.v (Value.int IntKind.i64 a)]] (Res.r (3 : Nat) (1 : Nat) (1 : Nat) (unv [SV.v (Value.int IntKind.i64 a)]))]
  := by kernel_rfl

theorem run136 (a : Int) (l0 l1 l2 l3 : Value) : (((xgo Try.prog X (bodyOf Try.f136) 6 C0 [] 60 [] (.nil) [.at []] ⟨argsTm 0 [.agg (Array.mk [.int .i64 a, l0, l1, l2, l3])], []⟩ [] []).bind (ends Try.prog Try.f136.results.toList)).bind plainE) =
  some [EndP.mk [] [fun _ => [SV.v (Value.int IntKind.i64 a)] = [SV.v (Value.int IntKind.i64 a)]] (Res.r (3 : Nat) (1 : Nat) (1 : Nat) (unv [SV.v (Value.int IntKind.i64 a)]))]
  := by kernel_rfl

theorem run125 (a b : Int) : (((xgo Try.prog X (bodyOf Try.f125) 8 C0 [] 60 [] (.nil) [.at []] ⟨argsTm 0 [.agg (Array.mk [.int .i64 a, .int .i64 b])], []⟩ [] []).bind (ends Try.prog Try.f125.results.toList)).bind plainE) =
  some [EndP.mk [] [fun _ => [SV.v (Value.int IntKind.i64 a), SV.v (Value.int IntKind.i64 b)] = [SV.v (Value.int IntKind.i64 a), SV.v (Value.int IntKind.i64 b)]] (Res.r (3 : Nat) (1 : Nat) (2 : Nat) (unv [SV.v (Value.int IntKind.i64 a), SV.v (Value.int IntKind.i64 b)]))]
  := by kernel_rfl

theorem run128 (a b : Int) : (((xgo Try.prog X (bodyOf Try.f128) 8 C0 [] 60 [] (.nil) [.at []] ⟨argsTm 0 [.agg (Array.mk [.int .i64 a, .int .i64 b])], []⟩ [] []).bind (ends Try.prog Try.f128.results.toList)).bind plainE) =
  some [EndP.mk [] [fun _ => [SV.v (Value.int IntKind.i64 a), SV.v (Value.int IntKind.i64 b)] = [SV.v (Value.int IntKind.i64 a), SV.v (Value.int IntKind.i64 b)]] (Res.r (3 : Nat) (1 : Nat) (2 : Nat) (unv [SV.v (Value.int IntKind.i64 a), SV.v (Value.int IntKind.i64 b)]))]
  := by kernel_rfl

theorem run79t (j : Int) (oa : Option Addr) : (((xgo Try.prog X (bodyOf Try.f79) 11 C0 [] 60 [.t] (.nil) [.at []] ⟨argsTm 0 [.int .i64 j, .pointer oa], []⟩ [] []).bind (ends Try.prog Try.f79.results.toList)).bind plainE) =
  some [EndP.mk [] [fun _ => decide (j < (0 : Int)) = true] (Res.v (Value.bool true))]
  := by kernel_rfl

theorem run79f (i j : Int) (oa : Option Addr) : (((xgo Try.prog X (bodyOf Try.f79) 11 C0 [] 60 [.f, .ld (.v (.int .i64 i))] (.nil) [.at []] ⟨argsTm 0 [.int .i64 j, .pointer oa], []⟩ [] []).bind (ends Try.prog Try.f79.results.toList)).bind plainE) =
  some [EndP.mk [] [fun _ => decide (j < (0 : Int)) = false, fun M => MCells (fun a => M a) oa [Value.int IntKind.i64 i]] (Res.v (Value.bool (decide (i ≤ j))))]
  := by kernel_rfl

theorem read_ok (op a b : Int) (l0 l1 l2 l3 : Value) (w : World) : Calls Try.prog 74 [.agg (Array.mk [.int .i64 op, .int .i64 a, .int .i64 b, l0, l1, l2, l3])].toArray w (fun E w' => ∃ v, E = .returned v ∧ Res.ok w w' (.v (rdV op a b l0 l1 l2 l3)) v ∧ Below w.heap.size w w') := by
  by_cases hc : op = 1
  · rw [rd_c a b l0 l1 l2 l3 hc]
    refine con_end (calls_plain hm Try.func74 (by kernel_rfl) rfl rfl 60 _ _ (run74c op a b l0 l1 l2 l3) ⟨fun _ => ⟨?_, rfl⟩, trivial⟩)
    simp only [hold_cons, hold_nil, and_true]
    exact fun _ _ => beq_iff_eq.2 hc
  by_cases hq2 : op = 2
  · rw [rd_q a b l0 l1 l2 l3 (by omega)]
    refine con_end (calls_plain hm Try.func74 (by kernel_rfl) rfl rfl 60 _ _ (run74q2 op a b l0 l1 l2 l3) ⟨fun _ => ⟨?_, rfl⟩, trivial⟩)
    simp only [hold_cons, hold_nil, and_true]
    exact ⟨fun _ _ => beq_eq_false_iff_ne.2 (by omega), fun _ _ => beq_iff_eq.2 hq2, fun _ _ => beq_iff_eq.2 hq2⟩
  by_cases hq3 : op = 3
  · rw [rd_q a b l0 l1 l2 l3 (by omega)]
    refine con_end (calls_plain hm Try.func74 (by kernel_rfl) rfl rfl 60 _ _ (run74q3 op a b l0 l1 l2 l3) ⟨fun _ => ⟨?_, rfl⟩, trivial⟩)
    simp only [hold_cons, hold_nil, and_true]
    exact ⟨fun _ _ => beq_eq_false_iff_ne.2 (by omega), fun _ _ => beq_eq_false_iff_ne.2 (by omega), fun _ _ => beq_iff_eq.2 hq3, fun _ _ => beq_iff_eq.2 hq3⟩
  by_cases hq4 : op = 4
  · rw [rd_q a b l0 l1 l2 l3 (by omega)]
    refine con_end (calls_plain hm Try.func74 (by kernel_rfl) rfl rfl 60 _ _ (run74q4 op a b l0 l1 l2 l3) ⟨fun _ => ⟨?_, rfl⟩, trivial⟩)
    simp only [hold_cons, hold_nil, and_true]
    exact ⟨fun _ _ => beq_eq_false_iff_ne.2 (by omega), fun _ _ => beq_eq_false_iff_ne.2 (by omega), fun _ _ => beq_eq_false_iff_ne.2 (by omega), fun _ _ => beq_iff_eq.2 hq4⟩
  by_cases hn : op = 5
  · rw [rd_n a b l0 l1 l2 l3 hn]
    refine con_end (calls_plain hm Try.func74 (by kernel_rfl) rfl rfl 60 _ _ (run74n op a b l0 l1 l2 l3) ⟨fun _ => ⟨?_, rfl⟩, trivial⟩)
    simp only [hold_cons, hold_nil, and_true]
    exact ⟨fun _ _ => beq_eq_false_iff_ne.2 (by omega), fun _ _ => beq_eq_false_iff_ne.2 (by omega), fun _ _ => beq_eq_false_iff_ne.2 (by omega), fun _ _ => beq_eq_false_iff_ne.2 (by omega), fun _ _ => beq_iff_eq.2 hn⟩
  by_cases ha : op = 6
  · rw [rd_a a b l0 l1 l2 l3 ha]
    refine con_end (calls_plain hm Try.func74 (by kernel_rfl) rfl rfl 60 _ _ (run74a op a b l0 l1 l2 l3) ⟨fun _ => ⟨?_, rfl⟩, trivial⟩)
    simp only [hold_cons, hold_nil, and_true]
    exact ⟨fun _ _ => beq_eq_false_iff_ne.2 (by omega), fun _ _ => beq_eq_false_iff_ne.2 (by omega), fun _ _ => beq_eq_false_iff_ne.2 (by omega), fun _ _ => beq_eq_false_iff_ne.2 (by omega), fun _ _ => beq_eq_false_iff_ne.2 (by omega), fun _ _ => beq_iff_eq.2 ha⟩
  by_cases hm1 : op = 7
  · rw [rd_m a b l0 l1 l2 l3 hm1]
    refine con_end (calls_plain hm Try.func74 (by kernel_rfl) rfl rfl 60 _ _ (run74m op a b l0 l1 l2 l3) ⟨fun _ => ⟨?_, rfl⟩, trivial⟩)
    simp only [hold_cons, hold_nil, and_true]
    exact ⟨fun _ _ => beq_eq_false_iff_ne.2 (by omega), fun _ _ => beq_eq_false_iff_ne.2 (by omega), fun _ _ => beq_eq_false_iff_ne.2 (by omega), fun _ _ => beq_eq_false_iff_ne.2 (by omega), fun _ _ => beq_eq_false_iff_ne.2 (by omega), fun _ _ => beq_eq_false_iff_ne.2 (by omega), fun _ _ => beq_iff_eq.2 hm1⟩
  by_cases hs : op = 8
  · rw [rd_s a b l0 l1 l2 l3 hs]
    refine con_end (calls_plain hm Try.func74 (by kernel_rfl) rfl rfl 60 _ _ (run74s op a b l0 l1 l2 l3) ⟨fun _ => ⟨?_, rfl⟩, trivial⟩)
    simp only [hold_cons, hold_nil, and_true]
    exact ⟨fun _ _ => beq_eq_false_iff_ne.2 (by omega), fun _ _ => beq_eq_false_iff_ne.2 (by omega), fun _ _ => beq_eq_false_iff_ne.2 (by omega), fun _ _ => beq_eq_false_iff_ne.2 (by omega), fun _ _ => beq_eq_false_iff_ne.2 (by omega), fun _ _ => beq_eq_false_iff_ne.2 (by omega), fun _ _ => beq_eq_false_iff_ne.2 (by omega), fun _ _ => beq_iff_eq.2 hs⟩
  · rw [rd_x a b l0 l1 l2 l3 (by omega)]
    refine con_end (calls_plain hm Try.func74 (by kernel_rfl) rfl rfl 60 _ _ (run74x op a b l0 l1 l2 l3) ⟨fun _ => ⟨?_, rfl⟩, trivial⟩)
    simp only [hold_cons, hold_nil, and_true]
    exact ⟨fun _ _ => beq_eq_false_iff_ne.2 (by omega), fun _ _ => beq_eq_false_iff_ne.2 (by omega), fun _ _ => beq_eq_false_iff_ne.2 (by omega), fun _ _ => beq_eq_false_iff_ne.2 (by omega), fun _ _ => beq_eq_false_iff_ne.2 (by omega), fun _ _ => beq_eq_false_iff_ne.2 (by omega), fun _ _ => beq_eq_false_iff_ne.2 (by omega), fun _ _ => beq_eq_false_iff_ne.2 (by omega)⟩
noncomputable def gRead : List RV → Option (Res × Prop)
  | [.v (.agg ⟨[.int .i64 op, .int .i64 a, .int .i64 b, l0, l1, l2, l3]⟩)] => some (.v (rdV op a b l0 l1 l2 l3), True)
  | _ => none
theorem gRead_ok (rvs : List RV) (r : Res) (p : Prop) (vs : List Value) (w : World) (hg : gRead rvs = some (r, p)) (hp : p) (hv : RVs (wmem w) rvs vs) : Calls Try.prog 74 vs.toArray w (fun E w' => ∃ v, E = .returned v ∧ r.ok w w' v ∧ Below w.heap.size w w') := by
  unfold gRead at hg
  split at hg
  · simp only [Option.some.injEq, Prod.mk.injEq] at hg
    obtain ⟨rfl, rfl⟩ := hg
    match vs, hv with
    | [y], ⟨h1, _⟩ =>
      rw [h1]
      exact read_ok _ _ _ _ _ _ _ w
  · cases hg
def gUsesNeg : List RV → Option (Res × Prop)
  | [.v (.agg ⟨[.int .i64 a]⟩)] => some (.r 3 1 1 [.int .i64 a], True)
  | _ => none
theorem gUsesNeg_ok (rvs : List RV) (r : Res) (p : Prop) (vs : List Value) (w : World) (hg : gUsesNeg rvs = some (r, p)) (hp : p) (hv : RVs (wmem w) rvs vs) : Calls Try.prog 121 vs.toArray w (fun E w' => ∃ v, E = .returned v ∧ r.ok w w' v ∧ Below w.heap.size w w') := by
  unfold gUsesNeg at hg
  split at hg
  · simp only [Option.some.injEq, Prod.mk.injEq] at hg
    obtain ⟨rfl, rfl⟩ := hg
    match vs, hv with
    | [y], ⟨h1, _⟩ =>
      rw [h1]
      refine con_end (calls_plain hm Try.func121 (by kernel_rfl) rfl rfl 60 _ _ (run121 _) ⟨fun _ => ⟨?_, rfl⟩, trivial⟩)
      simp only [hold_cons, hold_nil, and_true]
      exact fun _ _ => trivial
  · cases hg
def gUsesScale : List RV → Option (Res × Prop)
  | [.v (.agg ⟨[.int .i64 a, _, _, _, _]⟩)] => some (.r 3 1 1 [.int .i64 a], True)
  | _ => none
theorem gUsesScale_ok (rvs : List RV) (r : Res) (p : Prop) (vs : List Value) (w : World) (hg : gUsesScale rvs = some (r, p)) (hp : p) (hv : RVs (wmem w) rvs vs) : Calls Try.prog 136 vs.toArray w (fun E w' => ∃ v, E = .returned v ∧ r.ok w w' v ∧ Below w.heap.size w w') := by
  unfold gUsesScale at hg
  split at hg
  · simp only [Option.some.injEq, Prod.mk.injEq] at hg
    obtain ⟨rfl, rfl⟩ := hg
    match vs, hv with
    | [y], ⟨h1, _⟩ =>
      rw [h1]
      refine con_end (calls_plain hm Try.func136 (by kernel_rfl) rfl rfl 60 _ _ (run136 _ _ _ _ _) ⟨fun _ => ⟨?_, rfl⟩, trivial⟩)
      simp only [hold_cons, hold_nil, and_true]
      exact fun _ _ => trivial
  · cases hg
def gUsesAdd : List RV → Option (Res × Prop)
  | [.v (.agg ⟨[.int .i64 a, .int .i64 b]⟩)] => some (.r 3 1 2 [.int .i64 a, .int .i64 b], True)
  | _ => none
theorem gUsesAdd_ok (rvs : List RV) (r : Res) (p : Prop) (vs : List Value) (w : World) (hg : gUsesAdd rvs = some (r, p)) (hp : p) (hv : RVs (wmem w) rvs vs) : Calls Try.prog 125 vs.toArray w (fun E w' => ∃ v, E = .returned v ∧ r.ok w w' v ∧ Below w.heap.size w w') := by
  unfold gUsesAdd at hg
  split at hg
  · simp only [Option.some.injEq, Prod.mk.injEq] at hg
    obtain ⟨rfl, rfl⟩ := hg
    match vs, hv with
    | [y], ⟨h1, _⟩ =>
      rw [h1]
      refine con_end (calls_plain hm Try.func125 (by kernel_rfl) rfl rfl 60 _ _ (run125 _ _) ⟨fun _ => ⟨?_, rfl⟩, trivial⟩)
      simp only [hold_cons, hold_nil, and_true]
      exact fun _ _ => trivial
  · cases hg
def gUsesMul : List RV → Option (Res × Prop)
  | [.v (.agg ⟨[.int .i64 a, .int .i64 b]⟩)] => some (.r 3 1 2 [.int .i64 a, .int .i64 b], True)
  | _ => none
theorem gUsesMul_ok (rvs : List RV) (r : Res) (p : Prop) (vs : List Value) (w : World) (hg : gUsesMul rvs = some (r, p)) (hp : p) (hv : RVs (wmem w) rvs vs) : Calls Try.prog 128 vs.toArray w (fun E w' => ∃ v, E = .returned v ∧ r.ok w w' v ∧ Below w.heap.size w w') := by
  unfold gUsesMul at hg
  split at hg
  · simp only [Option.some.injEq, Prod.mk.injEq] at hg
    obtain ⟨rfl, rfl⟩ := hg
    match vs, hv with
    | [y], ⟨h1, _⟩ =>
      rw [h1]
      refine con_end (calls_plain hm Try.func128 (by kernel_rfl) rfl rfl 60 _ _ (run128 _ _) ⟨fun _ => ⟨?_, rfl⟩, trivial⟩)
      simp only [hold_cons, hold_nil, and_true]
      exact fun _ _ => trivial
  · cases hg
theorem hold_cells {w : World} {oa : Option Addr} {vs : List Value} (h : MCells (wmem w) oa vs) : ∀ M, F0 w M → MCells (fun a => M a) oa vs := fun _ hM => h.mono hM
theorem out_ok (i j : Int) (oa : Option Addr) (w : World) (hc : MCells (wmem w) oa [.int .i64 i]) : Calls Try.prog 79 [.int .i64 j, .pointer oa].toArray w (fun E w' => ∃ v, E = .returned v ∧ Res.ok w w' (.v (.bool (outB i j))) v ∧ Below w.heap.size w w') := by
  by_cases hj : j < 0
  · refine con_end (calls_plain hm Try.func79 (by kernel_rfl) rfl rfl 60 _ _ (run79t j oa) ⟨fun _ => ⟨?_, ?_⟩, trivial⟩)
    · simp only [hold_cons, hold_nil, and_true]
      exact fun _ _ => decide_eq_true hj
    · rw [outB, decide_eq_true (.inl hj)]
  · refine con_end (calls_plain hm Try.func79 (by kernel_rfl) rfl rfl 60 _ _ (run79f i j oa) ⟨fun _ => ⟨?_, ?_⟩, trivial⟩)
    · simp only [hold_cons, hold_nil, and_true]
      exact ⟨fun _ _ => decide_eq_false hj, hold_cells hc⟩
    · rw [outB, show decide (j < 0 ∨ i ≤ j) = decide (i ≤ j) from decide_eq_decide.2 (by omega)]
noncomputable def gOut : List RV → Option (Res × Prop)
  | [.v (.int .i64 j), .b [.int .i64 i] none] => some (.v (.bool (outB i j)), True)
  | _ => none
theorem gOut_ok (rvs : List RV) (r : Res) (p : Prop) (vs : List Value) (w : World) (hg : gOut rvs = some (r, p)) (hp : p) (hv : RVs (wmem w) rvs vs) : Calls Try.prog 79 vs.toArray w (fun E w' => ∃ v, E = .returned v ∧ r.ok w w' v ∧ Below w.heap.size w w') := by
  unfold gOut at hg
  split at hg
  · simp only [Option.some.injEq, Prod.mk.injEq] at hg
    obtain ⟨rfl, rfl⟩ := hg
    match vs, hv with
    | [x, y], ⟨h1, ⟨oa, h2, h3, _⟩, _⟩ =>
      rw [h1, h2]
      exact out_ok _ _ _ w h3
  · cases hg
noncomputable def K1 : Con Try.prog := (((((C0.add 74 gRead gRead_ok).add 121 gUsesNeg gUsesNeg_ok).add 136 gUsesScale gUsesScale_ok).add 125 gUsesAdd gUsesAdd_ok).add 128 gUsesMul gUsesMul_ok).add 79 gOut gOut_ok
end Go.Proofs.Ytpghmnpbfaichaa

namespace Go.Pl
open Go.Sx
/-- The place of the first that a test takes. -/
def idxF {α : Type} (p : α → Bool) : Nat → List α → Int
  | _, [] => -1
  | k, x :: r => if p x then (k : Int) else idxF p (k + 1) r
theorem idxF_any {α : Type} (p : α → Bool) : ∀ (l : List α) (k : Nat), decide (0 ≤ idxF p k l) = l.any p
  | [], k => by simp [idxF]
  | x :: r, k => by
    rw [idxF, List.any_cons]
    cases h : p x with
    | true => simp
    | false => simpa using idxF_any p r (k + 1)
/-- The numbers of cells. -/
def unIs (cs : List Value) : List Int := cs.map unI
theorem unIs_intsC (l : List Int) : unIs (intsC l) = l := by
  induction l with
  | nil => rfl
  | cons x r ih =>
    simp only [unIs, intsC, List.map_cons, unI] at ih ⊢
    rw [ih]
noncomputable def idxO (i : Int) (cs : List Value) : Int := hidZ (idxF (outB i) 0 (unIs cs))
noncomputable def anyO (i : Int) (cs : List Value) : Bool := hidQ ((unIs cs).any (outB i))
/-- What lies further on. -/
theorem MCells.at {M : Mem} {ad : Addr} {cs : List Value} (h : MCells M (some ad) cs) (i : Nat) (vs : List Value) (hv : ∀ (j : Nat) v, vs[j]? = some v → cs[i + j]? = some v) : MCells M (some (ad.add i)) vs := by
  obtain ⟨ad', h1, h2⟩ := h
  cases h1
  refine ⟨_, rfl, fun j v hj => ?_⟩
  rw [show (ad.add i).add j = ad.add (i + j) from by unfold Addr.add; by_cases hi : i = 0 <;> by_cases hj : j = 0 <;> simp [hi, hj, Nat.add_assoc]]
  exact h2 _ v (hv j v hj)
end Go.Pl
namespace Go.Proofs.Ytpghmnpbfaichaa
open Go.Sx Go.Pl Go.RowKit
theorem ok_mono {P : Program} {B : Code} {n : Nat} {F : Mem → Prop} {w0 : World} {fin : Exit → Act → World → Prop} {k : List It} {st st' : St} (h : st = st') (q : Ok P B n F w0 fin k st) : Ok P B n F w0 fin k st' := h ▸ q
theorem wrap_i64 (z : Nat) (h : z < 9223372036854775808) : IntKind.wrap .i64 (z : Int) = z := by
  have hb : ((IntKind.bits .i64 : Nat)) = 64 := rfl
  simp only [IntKind.wrap, IntKind.bits, IntKind.signed]
  simp
  omega
theorem wrap_inc (k : Nat) (h : k < 9223372036854775807) : IntKind.wrap .i64 ((k : Int) + 1) = ((k + 1 : Nat) : Int) := by
  rw [show (k : Int) + 1 = ((k + 1 : Nat) : Int) by omega, wrap_i64 _ (by omega)]
theorem ixS (oa op : Option Addr) (n cap : Nat) : ((xgo Try.prog X (bodyOf Try.f80) 19 K1 [] 60 [] ((.nil)) [.at []] ⟨argsTm 0 [.slice oa n cap, .func (.func 79) #[] #[.pointer op]], []⟩ [] []).map (trims [8, 7, 1, 0])) =
  some [Leaf2.mk [] [] [It.at [(0 : Nat), (1 : Nat), (0 : Nat), (1 : Nat)], It.blk (0 : Nat), It.at [(1 : Nat), (1 : Nat)]] (St.mk [((8 : Nat), SV.v (Value.int IntKind.i64 (0 : Int))), ((7 : Nat), SV.v (Value.int IntKind.i64 (↑n : Int))), ((1 : Nat), SV.v (Value.func (Fn.func (79 : Nat)) (Array.mk []) (Array.mk [Value.pointer op]))), ((0 : Nat), SV.v (Value.slice oa n cap))] [])]
  := by kernel_rfl

theorem ixE (oa op : Option Addr) (n cap k M : Nat) : (((xgo Try.prog X (bodyOf Try.f80) 19 K1 [] 60 [.f] ((.nil)) [.at [0,0,1,0,1], .rnd [0,0,1,0,1] (M + 1), .blk 0, .at [1,1]] ⟨[(8, .v (.int .i64 (k : Int))), (7, .v (.int .i64 (n : Int))), (1, .v (.func (.func 79) #[] #[.pointer op])), (0, .v (.slice oa n cap))], []⟩ [] []).bind (ends Try.prog Try.f80.results.toList)).bind plainE) =
  some [EndP.mk [] [fun _ => decide ((↑k : Int) < (↑n : Int)) = false] (Res.v (Value.int IntKind.i64 (-1 : Int)))]
  := by kernel_rfl

theorem ixT (ad : Addr) (op : Option Addr) (n cap k M : Nat) (x i : Int) : (((xgo Try.prog X (bodyOf Try.f80) 19 K1 [] 60 [.t, .ld (.v (.int .i64 x)), .lx [.int .i64 i], .t] ((.nil)) [.at [0,0,1,0,1], .rnd [0,0,1,0,1] (M + 1), .blk 0, .at [1,1]] ⟨[(8, .v (.int .i64 (k : Int))), (7, .v (.int .i64 (n : Int))), (1, .v (.func (.func 79) #[] #[.pointer op])), (0, .v (.slice (some ad) n cap))], []⟩ [] []).bind (ends Try.prog Try.f80.results.toList)).bind plainE) =
  some [EndP.mk [] [fun _ => decide ((↑k : Int) < (↑n : Int)) = true,
    fun _ => (0 : Int) ≤ (↑k : Int) ∧ (↑k : Int) < (↑n : Int),
    fun _ => true = true, fun M => MCells (fun a => M a) (some (if Int.toNat (↑k : Int) * (1 : Nat) = (0 : Nat) then ad else Addr.mk ad.1 (ad.2 + Int.toNat (↑k : Int) * (1 : Nat)) none)) [Value.int IntKind.i64 x], fun M => MCells (fun a => M a) op [Value.int IntKind.i64 i],
    fun _ => True,
    fun _ => outB i x = true] (Res.v (Value.int IntKind.i64 (↑k : Int)))]
  := by kernel_rfl

theorem ixN (ad : Addr) (op : Option Addr) (n cap k M : Nat) (x i : Int) (kt : List It) : ((xgo Try.prog X (bodyOf Try.f80) 19 K1 [] 60 [.t, .ld (.v (.int .i64 x)), .lx [.int .i64 i], .f] ((.nil)) (.at [0,0,1,0,1] :: .rnd [0,0,1,0,1] (M + 1) :: kt) ⟨[(8, .v (.int .i64 (k : Int))), (7, .v (.int .i64 (n : Int))), (1, .v (.func (.func 79) #[] #[.pointer op])), (0, .v (.slice (some ad) n cap))], []⟩ [] []).map (trims [8, 7, 1, 0])) =
  some [Leaf2.mk [] [fun _ => decide ((↑k : Int) < (↑n : Int)) = true,
    fun _ => (0 : Int) ≤ (↑k : Int) ∧ (↑k : Int) < (↑n : Int),
    fun _ => true = true, fun M => MCells (fun a => M a) (some (if Int.toNat (↑k : Int) * (1 : Nat) = (0 : Nat) then ad else Addr.mk ad.1 (ad.2 + Int.toNat (↑k : Int) * (1 : Nat)) none)) [Value.int IntKind.i64 x], fun M => MCells (fun a => M a) op [Value.int IntKind.i64 i],
    fun _ => True,
    fun _ => outB i x = false] (It.rnd [(0 : Nat), (0 : Nat), (1 : Nat), (0 : Nat), (1 : Nat)] (M + (1 : Nat)) :: kt) (St.mk [((8 : Nat), SV.v (Value.int IntKind.i64 (IntKind.wrap IntKind.i64 ((↑k : Int) + (1 : Int))))), ((7 : Nat), SV.v (Value.int IntKind.i64 (↑n : Int))), ((1 : Nat), SV.v (Value.func (Fn.func (79 : Nat)) (Array.mk []) (Array.mk [Value.pointer op]))), ((0 : Nat), SV.v (Value.slice (some ad) n cap))] [])]
  := by kernel_rfl


noncomputable def stIx (oa op : Option Addr) (n cap k : Nat) : St := ⟨[(8, .v (.int .i64 (k : Int))), (7, .v (.int .i64 (n : Int))), (1, .v (.func (.func 79) #[] #[.pointer op])), (0, .v (.slice oa n cap))], []⟩
theorem ix_loop {w : World} (oa op : Option Addr) (n cap : Nat) (i : Int) (all : List Int) (hn : all.length = n) (hb : n ≤ 4611686018427387903) (ha : intsC all = [] ∨ MCells (wmem w) oa (intsC all)) (hp : MCells (wmem w) op [.int .i64 i]) (R : Res → Prop) :
    ∀ (l pre : List Int), all = pre ++ l → R (.v (.int .i64 (idxF (outB i) pre.length l))) →
    Ok Try.prog (bodyOf Try.f80) 19 (F0 w) w (bodyPost Try.prog Try.f80 fun E w' => ∃ v r, E = .returned v ∧ R r ∧ r.ok w w' v ∧ Below w.heap.size w w') (.rnd [0,0,1,0,1] (l.length + 2) :: [.blk 0, .at [1,1]]) (stIx oa op n cap pre.length)
  | [], pre, he, hR => by
    have hl : pre.length = n := by rw [← hn, he]; simp
    refine Ok.rnd (ok_plain hm (F0.mono w) (fun _ h => h) 60 _ _ _ _ (ixE oa op n cap pre.length 0) ⟨fun _ => ⟨?_, hR⟩, trivial⟩)
    simp only [hold_cons, hold_nil, and_true]
    exact fun _ _ => decide_eq_false (by omega)
  | x :: l, pre, he, hR => by
    have hl : pre.length + (l.length + 1) = n := by rw [← hn, he]; simp
    have hne : MCells (wmem w) oa (intsC all) := by
      rcases ha with h | h
      · rw [he] at h; simp [intsC] at h
      · exact h
    obtain ⟨ad, rfl, hcells⟩ := hne
    have hx : MCells (wmem w) (some (ad.add (pre.length * 1))) [.int .i64 x] := by
      refine MCells.at ⟨ad, rfl, hcells⟩ (pre.length * 1) _ fun j v hj => ?_
      rw [he]
      match j, hj with
      | 0, hj =>
        simp only [List.getElem?_cons_zero, Option.some.injEq] at hj
        subst hj
        simp [intsC]
    have s1 : decide (((pre.length : Nat) : Int) < (n : Int)) = true := decide_eq_true (by omega)
    have s2 : (0 : Int) ≤ ((pre.length : Nat) : Int) ∧ ((pre.length : Nat) : Int) < (n : Int) := ⟨by omega, by omega⟩
    rw [idxF] at hR
    cases hq : outB i x with
    | true =>
      rw [hq, if_pos rfl] at hR
      refine Ok.rnd (ok_plain hm (F0.mono w) (fun _ h => h) 60 _ _ _ _ (ixT ad op n cap pre.length (l.length + 1) x i) ⟨fun _ => ⟨?_, hR⟩, trivial⟩)
      simp only [hold_cons, hold_nil, and_true]
      exact ⟨fun _ _ => s1, fun _ _ => s2, fun _ _ => trivial, hold_cells hx, hold_cells hp, fun _ _ => trivial, fun _ _ => hq⟩
    | false =>
      rw [hq, if_neg (by simp)] at hR
      refine Ok.rnd (xgo_trim hm (F0.mono w) finB 60 _ _ _ _ _ _ (ixN ad op n cap pre.length (l.length + 1) x i _) (paidCons (fun _ => ⟨?_, ?_⟩) paidNil))
      · simp only [hold_cons, hold_nil, and_true]
        exact ⟨fun _ _ => s1, fun _ _ => s2, fun _ _ => trivial, hold_cells hx, hold_cells hp, fun _ _ => trivial, fun _ _ => hq⟩
      · simp only [wrap_inc pre.length (by omega)]
        have hlen : (pre ++ [x]).length = pre.length + 1 := by simp
        refine ok_mono (st := stIx (some ad) op n cap (pre ++ [x]).length) (by rw [hlen]; rfl) (ix_loop (some ad) op n cap i all hn hb ha hp R l (pre ++ [x]) (by rw [he]; simp) (by rw [hlen]; exact hR))
theorem idx_ok (oa op : Option Addr) (n cap : Nat) (i : Int) (all : List Int) (hn : all.length = n) (hb : n ≤ 4611686018427387903) (w : World) (ha : intsC all = [] ∨ MCells (wmem w) oa (intsC all)) (hp : MCells (wmem w) op [.int .i64 i]) :
    Calls Try.prog 80 [.slice oa n cap, .func (.func 79) #[] #[.pointer op]].toArray w (fun E w' => ∃ v, E = .returned v ∧ Res.ok w w' (.v (.int .i64 (idxF (outB i) 0 all))) v ∧ Below w.heap.size w w') := by
  refine con_end (calls_of_ok (B := bodyOf Try.f80) (n := 19) Try.func80 (by kernel_rfl) rfl rfl (F := F0 w) (fun _ _ h => h) ?_)
  refine xgo_trim hm (F0.mono w) finB 60 _ _ _ _ _ _ (ixS oa op n cap) (paidCons (fun _ => ⟨?_, ?_⟩) paidNil)
  · simp only [hold_nil]
  · exact ok_mono (st := stIx oa op n cap 0) rfl (Ok.loop (all.length + 2) (by kernel_rfl) (ix_loop oa op n cap i all hn hb ha hp (fun r => r = .v (.int .i64 (idxF (outB i) 0 all))) all [] rfl rfl))
noncomputable def gIdx : List RV → Option (Res × Prop)
  | [.r n cs, .k 79 [.b [.int .i64 i] none]] => some (.v (.int .i64 (idxO i cs)), cs = intsC (unIs cs) ∧ (unIs cs).length = n ∧ n ≤ 4611686018427387903)
  | _ => none
theorem gIdx_ok (rvs : List RV) (r : Res) (p : Prop) (vs : List Value) (w : World) (hg : gIdx rvs = some (r, p)) (hp : p) (hv : RVs (wmem w) rvs vs) : Calls Try.prog 80 vs.toArray w (fun E w' => ∃ v, E = .returned v ∧ r.ok w w' v ∧ Below w.heap.size w w') := by
  unfold gIdx at hg
  split at hg
  · rename_i n cs i
    simp only [Option.some.injEq, Prod.mk.injEq] at hg
    obtain ⟨rfl, rfl⟩ := hg
    obtain ⟨hc, hn, hb⟩ := hp
    match vs, hv with
    | [x, y], ⟨⟨oa, cap, h1, h2⟩, ⟨[q], h3, ⟨op, h4, h5, _⟩, _⟩, _⟩ =>
      rw [h1, h3, h4, idxO, hidZ_eq]
      rw [hc] at h2
      exact idx_ok oa op n cap i _ hn hb w h2 h5
  · cases hg
noncomputable def K2 : Con Try.prog := K1.add 80 gIdx gIdx_ok
end Go.Proofs.Ytpghmnpbfaichaa

namespace Go.Pl
open Go.Sx
/-- Values as they stand in a row. -/
def mapv (l : List Value) : List SV := l.map SV.v
theorem unv_mapv' (l : List Value) : unv (mapv l) = l := unv_mapv l
theorem mapv_append (a b : List Value) : mapv (a ++ b) = mapv a ++ mapv b := by simp [mapv]
theorem mapv_length (l : List Value) : (mapv l).length = l.length := by simp [mapv]
theorem mapv_get (l : List Value) (i : Nat) (h : i < l.length) : (mapv l)[i]? = some (SV.v l[i]) := by simp [mapv, h]
theorem renL_mapv (π : List Nat) (l : List Value) : renL π (l.map SV.v) = l.map SV.v := by
  induction l with
  | nil => rfl
  | cons x r ih => simp only [List.map_cons, renL, renS, ih]
theorem ren_row (π : List Nat) (T : TypeId) (sz n : Nat) (l : List Value) : some (HO.row T sz n (mapv l)) = some (renH π (.row T sz n (mapv l))) := by
  simp only [renH, mapv, renL_mapv]
end Go.Pl
namespace Go.Proofs.Ytpghmnpbfaichaa
open Go.Sx Go.Pl Go.RowKit
theorem run53 (oa op : Option Addr) (n cap : Nat) (i : Int) (l : List Int) : (((xgo Try.prog X (bodyOf Try.f53) 9 K2 [] 60 [.lx (intsC l), .lx [.int .i64 i]] (.nil) [.at []] ⟨argsTm 0 [.slice oa n cap, .func (.func 79) #[] #[.pointer op]], []⟩ [] []).bind (ends Try.prog Try.f53.results.toList)).bind plainE) =
  some [EndP.mk [] [fun M => intsC l = [] ∨ MCells M oa (intsC l), fun M => MCells M op [Value.int IntKind.i64 i], fun _ => intsC l = intsC (unIs (intsC l)) ∧ List.length (unIs (intsC l)) = n ∧ n ≤ (4611686018427387903 : Nat)] (Res.v (Value.bool (decide ((0 : Int) ≤ idxO i (intsC l)))))] := by kernel_rfl
noncomputable def gAny : List RV → Option (Res × Prop)
  | [.r n cs, .k 79 [.b [.int .i64 i] none]] => some (.v (.bool (anyO i cs)), cs = intsC (unIs cs) ∧ (unIs cs).length = n ∧ n ≤ 4611686018427387903)
  | _ => none
theorem gAny_ok (rvs : List RV) (r : Res) (p : Prop) (vs : List Value) (w : World) (hg : gAny rvs = some (r, p)) (hp : p) (hv : RVs (wmem w) rvs vs) : Calls Try.prog 53 vs.toArray w (fun E w' => ∃ v, E = .returned v ∧ r.ok w w' v ∧ Below w.heap.size w w') := by
  unfold gAny at hg
  split at hg
  · rename_i n cs i
    simp only [Option.some.injEq, Prod.mk.injEq] at hg
    obtain ⟨rfl, rfl⟩ := hg
    obtain ⟨hc, hn, hb⟩ := hp
    match vs, hv with
    | [x, y], ⟨⟨oa, cap, h1, h2⟩, ⟨[q], h3, ⟨op, h4, h5, _⟩, _⟩, _⟩ =>
      rw [h1, h3, h4, anyO, hidQ_eq, ← idxF_any (outB i) (unIs cs) 0]
      rw [hc] at h2
      refine con_end (calls_plain hm Try.func53 (by kernel_rfl) rfl rfl 60 _ _ (run53 oa op n cap i (unIs cs)) ⟨fun _ => ⟨?_, ?_⟩, trivial⟩)
      · simp only [hold_cons, hold_nil, and_true, unIs_intsC]
        exact ⟨fun _ hM => h2.imp id fun h => h.mono hM, hold_cells h5, fun _ _ => ⟨trivial, hn, hb⟩⟩
      · rw [idxO, hidZ_eq, unIs_intsC]
  · cases hg
noncomputable def K3 : Con Try.prog := K2.add 53 gAny gAny_ok
end Go.Proofs.Ytpghmnpbfaichaa

namespace Go.Pl
open Go.Sx
/-- The nodes that a node uses. -/
def usesN (x : Nd) : List Int := if x.op = 5 ∨ x.op = 8 then [x.a] else if x.op = 6 ∨ x.op = 7 then [x.a, x.b] else []
/-- Is a node right at a place? -/
def okN (i : Nat) (x : Nd) : Bool := decide (1 ≤ x.op ∧ x.op ≤ 8) && (usesN x).all fun j => decide (0 ≤ j ∧ j < (i : Int))
/-- Are all from a place on? -/
def ordN : Nat → List Nd → Bool
  | _, [] => true
  | i, x :: r => okN i x && ordN (i + 1) r
def qryN (x : Nd) : Bool := decide (2 ≤ x.op ∧ x.op ≤ 4)
def mostN (f a i : Int) (op : Int) : Int := if op = 2 then f else if op = 3 then a else i
def badN (f a i : Int) (x : Nd) : Bool := qryN x && decide (x.a < 0 ∨ mostN f a i x.op ≤ x.a ∨ x.b < -3 ∨ 3 < x.b)
/-- The error of nodes. -/
def chkN (l : List Nd) (f a i : Int) : Int := if 64 < l.length ∨ ordN 0 l = false ∨ (l.any (badN f a i)) = true then 110 else 0
def degD (out : List Int) (x : Nd) : Int :=
  if x.op = 5 ∨ x.op = 8 then out.getD x.a.toNat 0 else if x.op = 6 then (if out.getD x.a.toNat 0 < out.getD x.b.toNat 0 then out.getD x.b.toNat 0 else out.getD x.a.toNat 0) else if x.op = 7 then out.getD x.a.toNat 0 + out.getD x.b.toNat 0 else if qryN x then 1 else 0
def degN (out : List Int) (x : Nd) : Int := if 1000 < degD out x then 1000 else degD out x
def degsN : List Int → List Nd → List Int
  | out, [] => out
  | out, x :: r => degsN (out ++ [degN out x]) r
def degrees (l : List Nd) : List Int := if ordN 0 l then degsN [] l else []
/-- The queries, each once. -/
def qsN : List (Int × Int × Int) → List Nd → List (Int × Int × Int)
  | out, [] => out
  | out, x :: r => if qryN x && !decide ((x.op, x.a, x.b) ∈ out) then qsN (out ++ [(x.op, x.a, x.b)]) r else qsN out r
def qsC (l : List (Int × Int × Int)) : List Value := l.flatMap fun q => [.int .i64 q.1, .int .i64 q.2.1, .int .i64 q.2.2]
/-- A node's uses marked, if it is marked. -/
def markN (l : List Nd) (i : Nat) (w : List Bool) : List Bool := if w.getD i false then ((l[i]?.map usesN).getD []).foldl (fun w j => w.set j.toNat true) w else w
/-- The marks of all nodes below a place. -/
def marksN (l : List Nd) : Nat → List Bool → List Bool
  | 0, w => w
  | i + 1, w => marksN l i (markN l i w)
def coneN (l : List Nd) (root : Int) : List Int :=
  if ordN 0 l = true ∧ 0 ≤ root ∧ root < (l.length : Int) then
    ((List.range (root.toNat + 1)).filter fun i => (marksN l (root.toNat + 1) ((List.replicate l.length false).set root.toNat true)).getD i false).map fun (i : Nat) => (i : Int)
  else []
end Go.Pl
