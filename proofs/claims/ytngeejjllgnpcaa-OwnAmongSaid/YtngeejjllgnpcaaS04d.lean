/- Contracts, printed by a program of this session's. -/
import Derived.Test.YtngeejjllgnpcaaS04c
namespace Go.Proofs.Ytngeejjllgnpcaa
open Go.Pv
set_option maxRecDepth 100000
set_option maxHeartbeats 4000000
set_option linter.unusedSimpArgs false
set_option linter.unusedVariables false
set_option linter.unusedSectionVars false

theorem remU {m : Nat} : (m : Int).tmod 4611686018427387904 = ((m % 4611686018427387904 : Nat) : Int) := rfl
theorem ga_lt (m : Nat) : gaN m 31 < 2 ^ 31 := gaN_lt m 31
theorem split_in {m : Nat} (hm : m < 18446744073709551616) : PCall Try.prog 89 [.int .i64 ((gaN m 31 : Nat) : Int), .int .i64 ((gaN (m >>> 1) 31 : Nat) : Int)] (· = .int .u64 ((m % 4611686018427387904 : Nat) : Int)) := by
  have := rcode_c 31 (gaN m 31) (gaN (m >>> 1) 31) (by omega) (ga_lt m) (ga_lt _)
  rwa [codN_mod] at this
theorem code_in {c r : Nat} (hc : c < 2147483648) (hr : r < 2147483648) : PCall Try.prog 89 [.int .i64 ((c : Nat) : Int), .int .i64 ((r : Nat) : Int)] (· = .int .u64 ((codN c r : Nat) : Int)) := by
  have := rcode_c 31 c r (by omega) hc hr
  rwa [← codN_in hc hr] at this

end Go.Proofs.Ytngeejjllgnpcaa
