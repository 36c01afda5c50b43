/- The document's difference and comparison of two numbers: states. -/
import Derived.Test.YtcipmpamhffclaaB18
namespace Go.Proofs.Ytcipmpamhffclaa
open Go.Sx Go.Pl Go.RowKit
def qS : List Nat := [0,0,1,0,1,1,1,1,1]
noncomputable def stS (a b : Nat) (i c : Int) (n : Nat) (l : List Nat) : St :=
  ⟨[(10, .v (.int .i64 i)), (9, .v (.int .i64 c)), (8, .o 5), (7, .o 4), (6, .o 3), (5, .v (.bool false)), (4, .p 2 0), (3, .p 1 0), (2, .p 0 0)],
    [.cells (ec a) 24, .cells (ec b) 24, .cells (ec 0) 24, .row 3 1 256 (mapv (hvs (bl (nb a 256)))), .row 3 1 256 (mapv (hvs (bl (nb b 256)))), .row 3 1 n (mapv (bl l))]⟩
def qL : List Nat := [0,0,1,0,1,1,1]
noncomputable def stL (a b : Nat) (i : Int) : St :=
  ⟨[(7, .v (.int .i64 i)), (6, .o 3), (5, .o 2), (4, .v (.bool false)), (3, .p 1 0), (2, .p 0 0)],
    [.cells (ec a) 24, .cells (ec b) 24, .row 3 1 256 (mapv (hvs (bl (nb a 256)))), .row 3 1 256 (mapv (hvs (bl (nb b 256))))]⟩
end Go.Proofs.Ytcipmpamhffclaa
