/- Layer 7: the law's own example. -/
import Derived.Test.YtaekecbadkcggaaDoorD07r
namespace Go.Proofs.YtaekecbadkcggaaDoor
open Go.Pv
set_option maxRecDepth 100000

theorem up07 : Ev (fun n => dlaw07_up n = some true) := ⟨120, fun n h => by
  obtain ⟨m, rfl⟩ := Nat.exists_eq_add_of_le' h
  kernel_rfl⟩
end Go.Proofs.YtaekecbadkcggaaDoor
