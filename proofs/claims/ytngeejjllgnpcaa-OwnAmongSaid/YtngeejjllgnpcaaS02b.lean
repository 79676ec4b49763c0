/- Contracts, printed by a program of this session's. -/
import Derived.Test.YtngeejjllgnpcaaS02
namespace Go.Proofs.Ytngeejjllgnpcaa
open Go.Pv
set_option maxRecDepth 100000
set_option maxHeartbeats 4000000
set_option linter.unusedSimpArgs false
set_option linter.unusedVariables false
set_option linter.unusedSectionVars false

section
attribute [local irreducible] awp aops DP PCall ACall Decidable.decide
/-- `plover/ploverref01.more` -/
theorem rmore_c {x y : Int} : PCall Try.prog 105 [.int .i64 x, .int .i64 y] (· = .int .i64 (mor x y)) := by
  refine pcall_body Try.func105 rfl (by kernel_rfl) (by rfl) ?_
  refine awp_seq ?_
  refine awp_region ?_
  refine rv rfl rfl (?_)
  refine rn ?_
  refine then_normal ?_
  refine awp_seq ?_
  refine awp_region ?_
  refine rv rfl rfl (?_)
  refine rv rfl rfl (?_)
  refine rv rfl rfl (?_)
  refine rv rfl rfl (?_)
  refine rc1 rfl rfl rfl rless_c (?_)
  refine rv rfl rfl (?_)
  refine rv rfl rfl (?_)
  refine rn ?_
  refine then_normal ?_
  refine awp_ret ?_
  repeat (first | refine then_ret ?_ | refine inBlock_ret ?_)
  refine rr rfl rfl ?_
  first | rfl | (simp only [mor]; done)
end

section
attribute [local irreducible] awp aops DP PCall ACall Decidable.decide
/-- `plover/ploverref01.Join` -/
theorem rjoin_c {a b c d a' b' c' d' : Int} : PCall Try.prog 76 [.agg [.int .i64 a, .int .i64 b, .int .i64 c, .int .i64 d], .agg [.int .i64 a', .int .i64 b', .int .i64 c', .int .i64 d']] (· = .agg [.int .i64 (mn a' a), .int .i64 (mn b' b), .int .i64 (mor c c'), .int .i64 (mor d d')]) := by
  refine pcall_body Try.func76 rfl (by kernel_rfl) (by rfl) ?_
  refine awp_seq ?_
  refine awp_region ?_
  refine rb rfl rfl (?_)
  refine rb rfl rfl (?_)
  refine ra rfl rfl rfl (?_)
  refine rn ?_
  refine then_normal ?_
  refine awp_seq ?_
  refine awp_dp (m := 21) Try.mix (by kernel_rfl) (by kernel_rfl) (by kernel_rfl) (by kernel_rfl) (by kernel_rfl) (by kernel_rfl) (by kernel_rfl) ?_
  refine dv rfl rfl (fun _ => rfl) ?_
  refine dv rfl rfl (fun _ => rfl) ?_
  refine dv rfl rfl (fun _ => rfl) ?_
  refine dv rfl rfl (fun _ => rfl) ?_
  refine dc rfl rfl rfl rfl (fun _ => rfl) (fun _ => rless_c) ?_
  refine dv rfl rfl (fun _ => rfl) ?_
  refine dv rfl rfl (fun _ => rfl) ?_
  refine dv rfl rfl (fun _ => rfl) ?_
  refine dv rfl rfl (fun _ => rfl) ?_
  refine dc rfl rfl rfl rfl (fun _ => rfl) (fun _ => rless_c) ?_
  refine dv rfl rfl (fun _ => rfl) ?_
  refine dv rfl rfl (fun _ => rfl) ?_
  refine dv rfl rfl (fun _ => rfl) ?_
  refine dv rfl rfl (fun _ => rfl) ?_
  refine dc rfl rfl rfl rfl (fun _ => rfl) (fun _ => (rmore_c)) ?_
  refine dv rfl rfl (fun _ => rfl) ?_
  refine dv rfl rfl (fun _ => rfl) ?_
  refine dv rfl rfl (fun _ => rfl) ?_
  refine dv rfl rfl (fun _ => rfl) ?_
  refine dc rfl rfl rfl rfl (fun _ => rfl) (fun _ => (rmore_c)) ?_
  refine dv rfl rfl (fun _ => rfl) ?_
  refine dn ?_
  refine rs rfl rfl rfl rfl rfl rfl rfl (?_)
  refine rn ?_
  refine then_normal ?_
  refine awp_ret ?_
  repeat (first | refine then_ret ?_ | refine inBlock_ret ?_)
  refine rr rfl rfl ?_
  first | rfl | (simp [*]; done) | (simp []; done) | (simp [*]; done) | (simp_all []; done)
end

def rmeetB (a b c d a' b' c' d' : Int) : Bool := decide (mor a a' ≤ mn c' c) && decide (mor b b' ≤ mn d' d)
def rmeetT (a b c d a' b' c' d' : Int) : AV := .tup [.agg [.int .i64 (mt (rmeetB a b c d a' b' c' d') (mor a a')), .int .i64 (mt (rmeetB a b c d a' b' c' d') (mor b b')), .int .i64 (mt (rmeetB a b c d a' b' c' d') (mn c' c)), .int .i64 (mt (rmeetB a b c d a' b' c' d') (mn d' d))], .bool (rmeetB a b c d a' b' c' d')]

end Go.Proofs.Ytngeejjllgnpcaa
