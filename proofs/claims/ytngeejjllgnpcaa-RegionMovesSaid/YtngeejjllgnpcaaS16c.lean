/- Contracts, printed by a program of this session's. -/
import Derived.Test.YtngeejjllgnpcaaS16b
namespace Go.Proofs.Ytngeejjllgnpcaa
open Go.Pv
set_option maxRecDepth 100000
set_option maxHeartbeats 4000000
set_option linter.unusedSimpArgs false
set_option linter.unusedVariables false
set_option linter.unusedSectionVars false

section
attribute [local irreducible] awp aops DP PCall ACall Decidable.decide mayP
/-- `plover/ploverref15.add` -/
theorem radd_c {p v : Pt} : PCall Try.prog 83 [.agg [.int .i64 (p).1, .int .i64 (p).2], .agg [.int .i64 (v).1, .int .i64 (v).2]] (· = (.tup [.agg [.int .i64 (W (p.1 + v.1)), .int .i64 (W (p.2 + v.2))], .bool (addB p.1 p.2 v.1 v.2)])) := by
  refine pcall_body Try.func83 rfl (by kernel_rfl) (by rfl) ?_
  refine awp_seq ?_
  refine awp_region ?_
  refine rb rfl rfl (?_)
  refine rb rfl rfl (?_)
  refine ra rfl rfl rfl (?_)
  refine rv rfl rfl (?_)
  refine rn ?_
  refine then_normal ?_
  refine awp_seq ?_
  refine awp_region ?_
  refine rv rfl rfl (?_)
  refine rc1 rfl rfl rfl rmayP_c (?_)
  refine rv rfl rfl (?_)
  refine rn ?_
  refine then_normal ?_
  refine awp_seq ?_
  refine awp_region ?_
  refine rv rfl rfl (?_)
  refine rc1 rfl rfl rfl rmayP_c (?_)
  refine rv rfl rfl (?_)
  refine rn ?_
  refine then_normal ?_
  refine awp_seq ?_
  refine awp_region ?_
  refine rv rfl rfl (?_)
  refine rv rfl rfl (?_)
  refine rv rfl rfl (?_)
  refine rv rfl rfl (?_)
  refine rv rfl rfl (?_)
  refine rv rfl rfl (?_)
  refine rv rfl rfl (?_)
  refine rv rfl rfl (?_)
  refine rv rfl rfl (?_)
  refine rv rfl rfl (?_)
  refine rv rfl rfl (?_)
  refine ra rfl rfl rfl (?_)
  refine rs rfl rfl rfl rfl rfl rfl rfl (?_)
  refine rn ?_
  refine then_normal ?_
  refine awp_seq ?_
  refine awp_region ?_
  refine rv rfl rfl (?_)
  refine rc1 rfl rfl rfl rmayP_c (?_)
  refine rv rfl rfl (?_)
  refine rn ?_
  refine then_normal ?_
  refine awp_seq ?_
  refine awp_region ?_
  refine rv rfl rfl (?_)
  refine rv rfl rfl (?_)
  refine rv rfl rfl (?_)
  (first | refine gy rfl rfl rfl (rv rfl rfl (?_)) | refine gn rfl rfl rfl rfl rfl ?_ | refine gu rfl rfl rfl rfl ?_ | refine gs rfl rfl rfl rfl rfl (fun hg => rv rfl rfl (?_)) (fun hg => ?_)) <;> (
  refine rv rfl rfl (?_)
  refine rv rfl rfl (?_)
  (first | refine gy rfl rfl rfl (rv rfl rfl (?_)) | refine gn rfl rfl rfl rfl rfl ?_ | refine gu rfl rfl rfl rfl ?_ | refine gs rfl rfl rfl rfl rfl (fun hg => rv rfl rfl (?_)) (fun hg => ?_)) <;> (
  refine rv rfl rfl (?_)
  refine rs rfl rfl rfl rfl rfl rfl rfl (?_)
  refine rv rfl rfl (?_)
  refine rn ?_
  refine then_normal ?_
  refine awp_ret ?_
  repeat (first | refine then_ret ?_ | refine inBlock_ret ?_)
  refine rr rfl rfl ?_
  first | (unfold addB; simp [*]; done) | (unfold addB; simp_all; done) | trace_state))
end

theorem radd_cb {x y : Int} {v : Pt} {s : Bool} (h : addB x y v.1 v.2 = s) : PCall Try.prog 83 [.agg [.int .i64 x, .int .i64 y], .agg [.int .i64 v.1, .int .i64 v.2]] (· = .tup [.agg [.int .i64 (W (x + v.1)), .int .i64 (W (y + v.2))], .bool s]) := by
  subst h; exact radd_c (p := (x, y))
def rmoveGO (m ok : Bool) (a b c d : Int) (l : List Pt) (v : Pt) : AV := match m, ok with
  | true, true => .tup [mvG a b c d l v, .int .i64 0]
  | true, false => .tup [.agg [.int .i64 0, .int .i64 0, .int .i64 0, .int .i64 0, .sl []], .int .i64 11]
  | false, _ => .tup [.agg [.int .i64 0, .int .i64 0, .int .i64 0, .int .i64 0, .sl []], .int .i64 1]
theorem ok_0 {a b c d : Int} {v : Pt} {p q ok : Bool} (ho : okG a b c d [] v = ok) (hp : addB a b v.1 v.2 = p) (hq : addB c d v.1 v.2 = q) : ok = (p && q) := by
  subst ho; subst hp; subst hq; rfl
theorem ok_1 {a b c d : Int} {q : Pt} {t : List Pt} {v : Pt} {ok : Bool} {i : Nat} (ho : okG a b c d (q :: t) v = ok) (hi : allA (q :: t) v i) (hn : ¬ i < (q :: t).length) : ok = true := by
  have e : i = (q :: t).length := by have := hi.1; omega
  subst e
  have := hi.2; rw [List.take_length] at this
  subst ho; exact this
theorem ok_2 {a b c d : Int} {q : Pt} {t : List Pt} {v : Pt} {ok : Bool} {i : Nat} (ho : okG a b c d (q :: t) v = ok) (hl : i < (q :: t).length) (ha : addB (gp (q :: t) i).1 (gp (q :: t) i).2 v.1 v.2 = false) : ok = false := by
  subst ho
  show (q :: t).all (addA v) = false
  rw [Bool.eq_false_iff]; intro h2
  have := List.all_eq_true.1 h2 _ (gp_mem (by omega) i)
  unfold addA at this; rw [ha] at this; cases this
theorem mv_take {q : Pt} {t : List Pt} {v : Pt} {i : Nat} (hi : allA (q :: t) v i) (hn : ¬ i < (q :: t).length) : rows (((q :: t).take i).map (mvW v)) = rows ((q :: t).map (mv v)) := by
  have e : i = (q :: t).length := by have := hi.1; omega
  subst e
  have := hi.2
  rw [List.take_length] at this ⊢
  rw [map_mv this]
theorem cons_no {q : Pt} {t : List Pt} (h : (((rows (q :: t)).length : Int) == 0) = true) : False := by simp [rows] at h; omega
theorem nil_no (h : (((rows []).length : Int) == 0) = false) : False := by simp [rows] at h

end Go.Proofs.Ytngeejjllgnpcaa
