/- Contracts, printed by a program of this session's. -/
import Derived.Test.YtngeejjllgnpcaaS16
namespace Go.Proofs.Ytngeejjllgnpcaa
open Go.Pv
set_option maxRecDepth 100000
set_option maxHeartbeats 4000000
set_option linter.unusedSimpArgs false
set_option linter.unusedVariables false
set_option linter.unusedSectionVars false

theorem cr_mv {a b p q d : Pt} (ha : my a = true) (hb : my b = true) (hp : my p = true) (hq : my q = true) (ha' : my (mv d a) = true) (hb' : my (mv d b) = true) (hp' : my (mv d p) = true) (hq' : my (mv d q) = true) : cr (mv d a) (mv d b) (mv d p) (mv d q) = cr a b p q := by
  have o1 := on_mv ha hb hp ha' hb' hp'; have o2 := on_mv ha hb hq ha' hb' hq'; have o3 := on_mv hp hq ha hp' hq' ha'; have o4 := on_mv hp hq hb hp' hq' hb'
  have t1 := tn_mv ha hb hp ha' hb' hp'; have t2 := tn_mv ha hb hq ha' hb' hq'; have t3 := tn_mv hp hq ha hp' hq' ha'; have t4 := tn_mv hp hq hb hp' hq' hb'
  unfold on at o1 o2 o3 o4; unfold tn at t1 t2 t3 t4
  unfold cr crossV apartV
  rw [o1, o2, o3, o4, t1, t2, t3, t4]
theorem mv_inj {d p q : Pt} (h : mv d p = mv d q) : p = q := by
  have h1 := congrArg Prod.fst h; have h2 := congrArg Prod.snd h
  simp only [mv] at h1 h2
  exact Prod.ext (by omega) (by omega)
theorem nodup_mv (d : Pt) : ∀ {l : List Pt}, l.Nodup → (l.map (mv d)).Nodup
  | [], _ => List.nodup_nil
  | a :: l, h => by
    rw [List.nodup_cons] at h
    rw [List.map_cons, List.nodup_cons]
    refine ⟨fun hm => ?_, nodup_mv d h.2⟩
    obtain ⟨q, hq, he⟩ := List.mem_map.1 hm
    exact h.1 (mv_inj he ▸ hq)
theorem Simp.mv {l : List Pt} (h : Simp l) {d : Pt} (ha : l.all (addA d) = true) : Simp (l.map (Go.Proofs.Ytngeejjllgnpcaa.mv d)) := by
  have hm : ∀ q ∈ l, my (Go.Proofs.Ytngeejjllgnpcaa.mv d q) = true := fun q hq => (mvW_eq (List.all_eq_true.1 ha q hq)).2
  have hE : ∀ e ∈ edges (l.map (Go.Proofs.Ytngeejjllgnpcaa.mv d)), ∃ e' ∈ edges l, e = (Go.Proofs.Ytngeejjllgnpcaa.mv d e'.1, Go.Proofs.Ytngeejjllgnpcaa.mv d e'.2) := fun e he => by
    rw [edges_map] at he
    obtain ⟨e', h1, h2⟩ := List.mem_map.1 he
    exact ⟨e', h1, h2.symm⟩
  refine ⟨by rw [List.length_map]; exact h.n3, by rw [List.length_map]; exact h.n64, fun p hp => ?_, nodup_mv d h.nd, fun e he f hf hef => ?_, fun e he f hf h1 h2 h3 h4 => ?_⟩
  · obtain ⟨q, hq, rfl⟩ := List.mem_map.1 hp; exact hm q hq
  · obtain ⟨e', he', rfl⟩ := hE e he
    obtain ⟨f', hf', rfl⟩ := hE f hf
    have a1 := edge_mem he'; have a2 := edge_mem hf'
    have := h.nb e' he' f' hf' (mv_inj hef)
    simp only
    rw [on_mv (h.may _ a1.1) (h.may _ a1.2) (h.may _ a2.2) (hm _ a1.1) (hm _ a1.2) (hm _ a2.2), on_mv (h.may _ a1.2) (h.may _ a2.2) (h.may _ a1.1) (hm _ a1.2) (hm _ a2.2) (hm _ a1.1)]
    exact this
  · obtain ⟨e', he', rfl⟩ := hE e he
    obtain ⟨f', hf', rfl⟩ := hE f hf
    have a1 := edge_mem he'; have a2 := edge_mem hf'
    simp only
    rw [cr_mv (h.may _ a1.1) (h.may _ a1.2) (h.may _ a2.1) (h.may _ a2.2) (hm _ a1.1) (hm _ a1.2) (hm _ a2.1) (hm _ a2.2)]
    exact h.cx e' he' f' hf' (fun e => h1 (congrArg (Go.Proofs.Ytngeejjllgnpcaa.mv d) e)) (fun e => h2 (congrArg (Go.Proofs.Ytngeejjllgnpcaa.mv d) e)) (fun e => h3 (congrArg (Go.Proofs.Ytngeejjllgnpcaa.mv d) e)) (fun e => h4 (congrArg (Go.Proofs.Ytngeejjllgnpcaa.mv d) e))
def okG (a b c d : Int) (l : List Pt) (v : Pt) : Bool := match l with
  | [] => addB a b v.1 v.2 && addB c d v.1 v.2
  | _ :: _ => l.all (addA v)
/-- A region, moved. -/
def mvG (a b c d : Int) (l : List Pt) (v : Pt) : AV := match l with
  | [] => .agg [.int .i64 (W (a + v.1)), .int .i64 (W (b + v.2)), .int .i64 (W (c + v.1)), .int .i64 (W (d + v.2)), .sl []]
  | _ :: _ => .agg [.int .i64 0, .int .i64 0, .int .i64 0, .int .i64 0, .sl (rows (l.map (mv v)))]
def mvX (q : Bool) (a b c d : Int) (v : Pt) : AV := match q with
  | true => .tup [.agg [.int .i64 (W (a + v.1)), .int .i64 (W (b + v.2)), .int .i64 (W (c + v.1)), .int .i64 (W (d + v.2))], .nilI]
  | false => .tup [.agg [.int .i64 0, .int .i64 0, .int .i64 0, .int .i64 0], .iface 35 (.int .i64 11)]

section
attribute [local irreducible] awp aops DP PCall ACall Decidable.decide Nat.mod simpB mayP mayR mayG inE inR box addB holdsR
/-- `plover/region.moved` -/
theorem moved_c {a b c d : Int} {v : Pt} {p q : Bool} (hp : addB a b v.1 v.2 = p) (hq : addB c d v.1 v.2 = q) : PCall Try.prog 82 [.agg [.int .i64 a, .int .i64 b, .int .i64 c, .int .i64 d], .agg [.int .i64 (v).1, .int .i64 (v).2]] (· = mvX (p && q) a b c d v) := by
  refine pcall_body Try.func82 rfl (by kernel_rfl) (by rfl) ?_
  refine awp_seq ?_
  (rcases p with _ | _ <;> rcases q with _ | _) <;> (
  refine awp_region ?_
  refine rb rfl rfl (?_)
  refine rb rfl rfl (?_)
  refine ra rfl rfl rfl (?_)
  refine rv rfl rfl (?_)
  refine rn ?_
  refine then_normal ?_
  refine awp_seq ?_
  refine awp_region ?_
  refine rv rfl rfl (?_)
  refine rv rfl rfl (?_)
  refine rv rfl rfl (?_)
  refine rv rfl rfl (?_)
  refine rv rfl rfl (?_)
  refine rv rfl rfl (?_)
  refine rc1 rfl rfl rfl (add_cb hp) (?_)
  refine rv rfl rfl (?_)
  refine rv rfl rfl (?_)
  refine rv rfl rfl (?_)
  refine ra rfl rfl rfl (?_)
  refine rs rfl rfl rfl rfl rfl rfl rfl (?_)
  refine rv rfl rfl (?_)
  refine rn ?_
  refine then_normal ?_
  refine awp_seq ?_
  refine awp_seq ?_
  refine awp_region ?_
  refine rv rfl rfl (?_)
  refine rv rfl rfl (?_)
  refine rn ?_
  refine then_normal ?_
  refine cs_ rfl (fun hc => ?_) (fun hc => ?_)
  · first
    | (cases hc; done)
    | (
      refine awp_seq ?_
      refine awp_region ?_
      refine rv rfl rfl (?_)
      refine rv rfl rfl (?_)
      refine rs rfl rfl rfl rfl rfl rfl rfl (?_)
      refine rv rfl rfl (?_)
      refine rn ?_
      refine then_normal ?_
      refine awp_ret ?_
      repeat (first | refine then_ret ?_ | refine inBlock_ret ?_)
      refine rr rfl rfl ?_
      first | rfl | (cases hc; done) | trace_state)
  · first
    | (cases hc; done)
    | (
      refine awp_skip ?_
      refine then_normal ?_
      refine awp_seq ?_
      refine awp_region ?_
      refine rv rfl rfl (?_)
      refine rv rfl rfl (?_)
      refine rv rfl rfl (?_)
      refine rv rfl rfl (?_)
      refine rv rfl rfl (?_)
      refine rv rfl rfl (?_)
      refine rc1 rfl rfl rfl (add_cb hq) (?_)
      refine rv rfl rfl (?_)
      refine rv rfl rfl (?_)
      refine rv rfl rfl (?_)
      refine ra rfl rfl rfl (?_)
      refine rs rfl rfl rfl rfl rfl rfl rfl (?_)
      refine rv rfl rfl (?_)
      refine rn ?_
      refine then_normal ?_
      refine awp_seq ?_
      refine awp_seq ?_
      refine awp_region ?_
      refine rv rfl rfl (?_)
      refine rv rfl rfl (?_)
      refine rn ?_
      refine then_normal ?_
      refine cs_ rfl (fun hc => ?_) (fun hc => ?_)
      · first
        | (cases hc; done)
        | (
          refine awp_seq ?_
          refine awp_region ?_
          refine rv rfl rfl (?_)
          refine rv rfl rfl (?_)
          refine rs rfl rfl rfl rfl rfl rfl rfl (?_)
          refine rv rfl rfl (?_)
          refine rn ?_
          refine then_normal ?_
          refine awp_ret ?_
          repeat (first | refine then_ret ?_ | refine inBlock_ret ?_)
          refine rr rfl rfl ?_
          first | rfl | (cases hc; done) | trace_state)
      · first
        | (cases hc; done)
        | (
          refine awp_skip ?_
          refine then_normal ?_
          refine awp_seq ?_
          refine awp_region ?_
          refine rv rfl rfl (?_)
          refine rv rfl rfl (?_)
          refine rv rfl rfl (?_)
          refine rv rfl rfl (?_)
          refine rv rfl rfl (?_)
          refine rv rfl rfl (?_)
          refine rv rfl rfl (?_)
          refine rv rfl rfl (?_)
          refine rv rfl rfl (?_)
          refine rs rfl rfl rfl rfl rfl rfl rfl (?_)
          refine rv rfl rfl (?_)
          refine rn ?_
          refine then_normal ?_
          refine awp_ret ?_
          repeat (first | refine then_ret ?_ | refine inBlock_ret ?_)
          refine rr rfl rfl ?_
          first | rfl | (cases hc; done) | trace_state)))
end

def moveGO (m ok : Bool) (a b c d : Int) (l : List Pt) (v : Pt) : AV := match m, ok with
  | true, true => .tup [mvG a b c d l v, .nilI]
  | true, false => .tup [.agg [.int .i64 0, .int .i64 0, .int .i64 0, .int .i64 0, .sl []], .iface 35 (.int .i64 11)]
  | false, _ => .tup [.agg [.int .i64 0, .int .i64 0, .int .i64 0, .int .i64 0, .sl []], .iface 35 (.int .i64 1)]
theorem pos_no (h : decide (((rows []).length : Int) > 0) = true) : False := by simp [rows] at h
theorem neg_no {q : Pt} {t : List Pt} (h : decide (((rows (q :: t)).length : Int) > 0) = false) : False := by simp [rows] at h
theorem movedG {a b c d : Int} {v : Pt} {ok : Bool} (h : okG a b c d [] v = ok) : PCall Try.prog 82 [.agg [.int .i64 a, .int .i64 b, .int .i64 c, .int .i64 d], .agg [.int .i64 v.1, .int .i64 v.2]] (· = mvX ok a b c d v) := by
  subst h; exact moved_c rfl rfl
theorem moveP {a b c d : Int} {q : Pt} {t : List Pt} {v : Pt} {ok : Bool} (hl : (q :: t).length ≤ maxLen) (hm : mayG a b c d (q :: t) = true) (h : okG a b c d (q :: t) v = ok) : PCall Try.prog 23 [.sl (rows (q :: t)), .agg [.int .i64 v.1, .int .i64 v.2]] (· = moveO true ok (q :: t) v) :=
  move_cb hl ((simpB_iff _).2 (mayG_simp hm).2) h

section
attribute [local irreducible] awp aops DP PCall ACall Decidable.decide Nat.mod simpB mayP mayR mayG inE inR box addB holdsR
/-- `plover/region.Move` -/
theorem moveG_c {a b c d : Int} {l : List Pt} {v : Pt} {m ok : Bool} (hl : l.length ≤ maxLen) (hm : mayG a b c d l = m) (ho : okG a b c d l v = ok) : PCall Try.prog 45 [.agg [.int .i64 (a), .int .i64 (b), .int .i64 (c), .int .i64 (d), .sl (rows l)], .agg [.int .i64 (v).1, .int .i64 (v).2]] (· = moveGO m ok a b c d l v) := by
  refine pcall_body Try.func45 rfl (by kernel_rfl) (by rfl) ?_
  refine awp_seq ?_
  (rcases m with _ | _ <;> rcases ok with _ | _ <;> rcases l with _ | ⟨q, t⟩) <;> (
  refine awp_region ?_
  refine rb rfl rfl (?_)
  refine rb rfl rfl (?_)
  refine ra rfl rfl rfl (?_)
  refine rv rfl rfl (?_)
  refine rn ?_
  refine then_normal ?_
  refine awp_seq ?_
  refine awp_seq ?_
  refine awp_region ?_
  refine rv rfl rfl (?_)
  refine rc1 rfl rfl rfl (mayG_cb hl hm) (?_)
  refine rv rfl rfl (?_)
  refine rn ?_
  refine then_normal ?_
  refine cs_ rfl (fun hc => ?_) (fun hc => ?_)
  · first
    | (cases hc; done)
    | (
      refine awp_seq ?_
      refine awp_region ?_
      refine rv rfl rfl (?_)
      refine rv rfl rfl (?_)
      refine rs rfl rfl rfl rfl rfl rfl rfl (?_)
      refine rv rfl rfl (?_)
      refine rn ?_
      refine then_normal ?_
      refine awp_ret ?_
      repeat (first | refine then_ret ?_ | refine inBlock_ret ?_)
      refine rr rfl rfl ?_
      first | rfl | (cases hc; done) | (exfalso; simp [rows] at hc; done) | (exfalso; simp [rows] at hc; omega) | trace_state)
  · first
    | (cases hc; done)
    | (
      refine awp_skip ?_
      refine then_normal ?_
      refine awp_seq ?_
      refine awp_seq ?_
      refine awp_region ?_
      refine rv rfl rfl (?_)
      refine rv rfl rfl (?_)
      refine rv rfl rfl (?_)
      refine rv rfl rfl (?_)
      refine rn ?_
      refine then_normal ?_
      refine cs_ rfl (fun hc => ?_) (fun hc => ?_)
      · first
        | (cases hc; done)
        | (
          refine awp_seq ?_
          (first | exact (pos_no (by assumption)).elim | skip) <;> (
          refine awp_region ?_
          refine rv rfl rfl (?_)
          refine rv rfl rfl (?_)
          refine rv rfl rfl (?_)
          refine rc1 rfl rfl rfl (moveP hl hm ho) (?_)
          refine rv rfl rfl (?_)
          refine rv rfl rfl (?_)
          refine rv rfl rfl (?_)
          refine rv rfl rfl (?_)
          refine rv rfl rfl (?_)
          refine rn ?_
          refine then_normal ?_
          refine awp_seq ?_
          refine awp_region ?_
          refine rv rfl rfl (?_)
          refine rv rfl rfl (?_)
          refine rv rfl rfl (?_)
          refine rs rfl rfl rfl rfl rfl rfl rfl (?_)
          refine rv rfl rfl (?_)
          refine rn ?_
          refine then_normal ?_
          refine awp_ret ?_
          repeat (first | refine then_ret ?_ | refine inBlock_ret ?_)
          refine rr rfl rfl ?_
          first | rfl | (cases hc; done) | (exfalso; simp [rows] at hc; done) | (exfalso; simp [rows] at hc; omega) | trace_state))
      · first
        | (cases hc; done)
        | (
          refine awp_skip ?_
          refine then_normal ?_
          refine awp_seq ?_
          (first | exact (neg_no (by assumption)).elim | skip) <;> (
          refine awp_region ?_
          refine rv rfl rfl (?_)
          refine rv rfl rfl (?_)
          refine rv rfl rfl (?_)
          refine rc1 rfl rfl rfl (movedG ho) (?_)
          refine rv rfl rfl (?_)
          refine rv rfl rfl (?_)
          refine rv rfl rfl (?_)
          refine ra rfl rfl rfl (?_)
          refine rs rfl rfl rfl rfl rfl rfl rfl (?_)
          refine rv rfl rfl (?_)
          refine rn ?_
          refine then_normal ?_
          refine awp_seq ?_
          refine awp_region ?_
          refine rv rfl rfl (?_)
          refine rv rfl rfl (?_)
          refine rv rfl rfl (?_)
          refine rs rfl rfl rfl rfl rfl rfl rfl (?_)
          refine rv rfl rfl (?_)
          refine rn ?_
          refine then_normal ?_
          refine awp_ret ?_
          repeat (first | refine then_ret ?_ | refine inBlock_ret ?_)
          refine rr rfl rfl ?_
          first | rfl | (cases hc; done) | (exfalso; simp [rows] at hc; done) | (exfalso; simp [rows] at hc; omega) | trace_state))))
end

end Go.Proofs.Ytngeejjllgnpcaa
