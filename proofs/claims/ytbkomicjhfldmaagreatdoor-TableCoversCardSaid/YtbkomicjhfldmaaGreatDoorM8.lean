/- The texts of a proof, put together by a program of this session's. -/
import Derived.Test.YtbkomicjhfldmaaGreatDoorM7
namespace Go.Proofs.YtbkomicjhfldmaaGreatDoor
open Go.Pv
set_option maxRecDepth 100000
set_option maxHeartbeats 4000000
set_option linter.unusedSimpArgs false
set_option linter.unusedVariables false
set_option linter.unusedSectionVars false
theorem cr_mv {a b p q d : Pt} (ha : my a = true) (hb : my b = true) (hp : my p = true) (hq : my q = true) (ha' : my (mv d a) = true) (hb' : my (mv d b) = true) (hp' : my (mv d p) = true) (hq' : my (mv d q) = true) : cr (mv d a) (mv d b) (mv d p) (mv d q) = cr a b p q := by
  have o1 := on_mv ha hb hp ha' hb' hp'; have o2 := on_mv ha hb hq ha' hb' hq'; have o3 := on_mv hp hq ha hp' hq' ha'; have o4 := on_mv hp hq hb hp' hq' hb'
  have t1 := tn_mv ha hb hp ha' hb' hp'; have t2 := tn_mv ha hb hq ha' hb' hq'; have t3 := tn_mv hp hq ha hp' hq' ha'; have t4 := tn_mv hp hq hb hp' hq' hb'
  unfold on at o1 o2 o3 o4; unfold tn at t1 t2 t3 t4
  unfold cr crossV apartV
  rw [o1, o2, o3, o4, t1, t2, t3, t4]
theorem mv_inj {d p q : Pt} (h : mv d p = mv d q) : p = q := by
  have h1 := congrArg Prod.fst h; have h2 := congrArg Prod.snd h
  simp only [mv] at h1 h2
  exact Prod.ext (by omega) (by omega)
theorem nodup_mv (d : Pt) : ∀ {l : List Pt}, l.Nodup → (l.map (mv d)).Nodup
  | [], _ => List.nodup_nil
  | a :: l, h => by
    rw [List.nodup_cons] at h
    rw [List.map_cons, List.nodup_cons]
    refine ⟨fun hm => ?_, nodup_mv d h.2⟩
    obtain ⟨q, hq, he⟩ := List.mem_map.1 hm
    exact h.1 (mv_inj he ▸ hq)
theorem Simp.mv {l : List Pt} (h : Simp l) {d : Pt} (ha : l.all (addA d) = true) : Simp (l.map (Go.Proofs.YtbkomicjhfldmaaGreatDoor.mv d)) := by
  have hm : ∀ q ∈ l, my (Go.Proofs.YtbkomicjhfldmaaGreatDoor.mv d q) = true := fun q hq => (mvW_eq (List.all_eq_true.1 ha q hq)).2
  have hE : ∀ e ∈ edges (l.map (Go.Proofs.YtbkomicjhfldmaaGreatDoor.mv d)), ∃ e' ∈ edges l, e = (Go.Proofs.YtbkomicjhfldmaaGreatDoor.mv d e'.1, Go.Proofs.YtbkomicjhfldmaaGreatDoor.mv d e'.2) := fun e he => by
    rw [edges_map] at he
    obtain ⟨e', h1, h2⟩ := List.mem_map.1 he
    exact ⟨e', h1, h2.symm⟩
  refine ⟨by rw [List.length_map]; exact h.n3, by rw [List.length_map]; exact h.n64, fun p hp => ?_, nodup_mv d h.nd, fun e he f hf hef => ?_, fun e he f hf h1 h2 h3 h4 => ?_⟩
  · obtain ⟨q, hq, rfl⟩ := List.mem_map.1 hp; exact hm q hq
  · obtain ⟨e', he', rfl⟩ := hE e he
    obtain ⟨f', hf', rfl⟩ := hE f hf
    have a1 := edge_mem he'; have a2 := edge_mem hf'
    have := h.nb e' he' f' hf' (mv_inj hef)
    simp only
    rw [on_mv (h.may _ a1.1) (h.may _ a1.2) (h.may _ a2.2) (hm _ a1.1) (hm _ a1.2) (hm _ a2.2), on_mv (h.may _ a1.2) (h.may _ a2.2) (h.may _ a1.1) (hm _ a1.2) (hm _ a2.2) (hm _ a1.1)]
    exact this
  · obtain ⟨e', he', rfl⟩ := hE e he
    obtain ⟨f', hf', rfl⟩ := hE f hf
    have a1 := edge_mem he'; have a2 := edge_mem hf'
    simp only
    rw [cr_mv (h.may _ a1.1) (h.may _ a1.2) (h.may _ a2.1) (h.may _ a2.2) (hm _ a1.1) (hm _ a1.2) (hm _ a2.1) (hm _ a2.2)]
    exact h.cx e' he' f' hf' (fun e => h1 (congrArg (Go.Proofs.YtbkomicjhfldmaaGreatDoor.mv d) e)) (fun e => h2 (congrArg (Go.Proofs.YtbkomicjhfldmaaGreatDoor.mv d) e)) (fun e => h3 (congrArg (Go.Proofs.YtbkomicjhfldmaaGreatDoor.mv d) e)) (fun e => h4 (congrArg (Go.Proofs.YtbkomicjhfldmaaGreatDoor.mv d) e))
def okG (a b c d : Int) (l : List Pt) (v : Pt) : Bool := match l with
  | [] => addB a b v.1 v.2 && addB c d v.1 v.2
  | _ :: _ => l.all (addA v)
def mvG (a b c d : Int) (l : List Pt) (v : Pt) : AV := match l with
  | [] => .agg [.int .i64 (W (a + v.1)), .int .i64 (W (b + v.2)), .int .i64 (W (c + v.1)), .int .i64 (W (d + v.2)), .sl []]
  | _ :: _ => .agg [.int .i64 0, .int .i64 0, .int .i64 0, .int .i64 0, .sl (rows (l.map (mv v)))]
def mvX (q : Bool) (a b c d : Int) (v : Pt) : AV := match q with
  | true => .tup [.agg [.int .i64 (W (a + v.1)), .int .i64 (W (b + v.2)), .int .i64 (W (c + v.1)), .int .i64 (W (d + v.2))], .nilI]
  | false => .tup [.agg [.int .i64 0, .int .i64 0, .int .i64 0, .int .i64 0], .iface 55 (.int .i64 11)]
section
attribute [local irreducible] awp aops DP PCall ACall Decidable.decide Nat.mod simpB mayP mayR mayG inE inR box addB holdsR
theorem moved_c {a b c d : Int} {v : Pt} {p q : Bool} (hp : addB a b v.1 v.2 = p) (hq : addB c d v.1 v.2 = q) : PCall Tryz.prog 87 [.agg [.int .i64 a, .int .i64 b, .int .i64 c, .int .i64 d], .agg [.int .i64 (v).1, .int .i64 (v).2]] (· = mvX (p && q) a b c d v) := by
  refine pB_ Tryz.func87 ?_
  refine aS ?_
  (rcases p with _ | _ <;> rcases q with _ | _) <;> (
  refine aR (rb rfl rfl (rb rfl rfl (ra rfl rfl rfl (rv rfl rfl (rn (aSR (rg 6 rfl (rc1 rfl rfl rfl (add_cb hp) (rg 3 rfl (ra rfl rfl rfl (rs rfl rfl rfl rfl rfl rfl rfl (rv rfl rfl (rn (aS (aSR (rg 2 rfl (rn (then_normal ?_))))))))))))))))))
  refine cs_ rfl (fun hc => ?_) (fun hc => ?_)
  · first
    | (cases hc; done)
    | (
      refine aSR (rg 2 rfl (rs rfl rfl rfl rfl rfl rfl rfl (rv rfl rfl (rn (aT ?_)))))
      repeat (first | refine then_ret ?_ | refine inBlock_ret ?_)
      refine rr rfl rfl ?_
      first | rfl | (cases hc; done) | trace_state)
  · first
    | (cases hc; done)
    | (
      refine aK (aSR (rg 6 rfl (rc1 rfl rfl rfl (add_cb hq) (rg 3 rfl (ra rfl rfl rfl (rs rfl rfl rfl rfl rfl rfl rfl (rv rfl rfl (rn (aS (aSR (rg 2 rfl (rn (then_normal ?_)))))))))))))
      refine cs_ rfl (fun hc => ?_) (fun hc => ?_)
      · first
        | (cases hc; done)
        | (
          refine aSR (rg 2 rfl (rs rfl rfl rfl rfl rfl rfl rfl (rv rfl rfl (rn (aT ?_)))))
          repeat (first | refine then_ret ?_ | refine inBlock_ret ?_)
          refine rr rfl rfl ?_
          first | rfl | (cases hc; done) | trace_state)
      · first
        | (cases hc; done)
        | (
          refine aK (aSR (rg 9 rfl (rs rfl rfl rfl rfl rfl rfl rfl (rv rfl rfl (rn (aT ?_))))))
          repeat (first | refine then_ret ?_ | refine inBlock_ret ?_)
          refine rr rfl rfl ?_
          first | rfl | (cases hc; done) | trace_state)))
end
def moveGO (m ok : Bool) (a b c d : Int) (l : List Pt) (v : Pt) : AV := match m, ok with
  | true, true => .tup [mvG a b c d l v, .nilI]
  | true, false => .tup [.agg [.int .i64 0, .int .i64 0, .int .i64 0, .int .i64 0, .sl []], .iface 55 (.int .i64 11)]
  | false, _ => .tup [.agg [.int .i64 0, .int .i64 0, .int .i64 0, .int .i64 0, .sl []], .iface 55 (.int .i64 1)]
theorem pos_no (h : decide (((rows []).length : Int) > 0) = true) : False := by simp [rows] at h
theorem neg_no {q : Pt} {t : List Pt} (h : decide (((rows (q :: t)).length : Int) > 0) = false) : False := by simp [rows] at h
theorem movedG {a b c d : Int} {v : Pt} {ok : Bool} (h : okG a b c d [] v = ok) : PCall Tryz.prog 87 [.agg [.int .i64 a, .int .i64 b, .int .i64 c, .int .i64 d], .agg [.int .i64 v.1, .int .i64 v.2]] (· = mvX ok a b c d v) := by
  subst h; exact moved_c rfl rfl
theorem moveP {a b c d : Int} {q : Pt} {t : List Pt} {v : Pt} {ok : Bool} (hl : (q :: t).length ≤ maxLen) (hm : mayG a b c d (q :: t) = true) (h : okG a b c d (q :: t) v = ok) : PCall Tryz.prog 86 [.sl (rows (q :: t)), .agg [.int .i64 v.1, .int .i64 v.2]] (· = moveO true ok (q :: t) v) :=
  move_cb hl ((simpB_iff _).2 (mayG_simp hm).2) h
section
attribute [local irreducible] awp aops DP PCall ACall Decidable.decide Nat.mod simpB mayP mayR mayG inE inR box addB holdsR
theorem moveG_c {a b c d : Int} {l : List Pt} {v : Pt} {m ok : Bool} (hl : l.length ≤ maxLen) (hm : mayG a b c d l = m) (ho : okG a b c d l v = ok) : PCall Tryz.prog 49 [.agg [.int .i64 (a), .int .i64 (b), .int .i64 (c), .int .i64 (d), .sl (rows l)], .agg [.int .i64 (v).1, .int .i64 (v).2]] (· = moveGO m ok a b c d l v) := by
  refine pB_ Tryz.func49 ?_
  refine aS ?_
  (rcases m with _ | _ <;> rcases ok with _ | _ <;> rcases l with _ | ⟨q, t⟩) <;> (
  refine aR (rb rfl rfl (rb rfl rfl (ra rfl rfl rfl (rv rfl rfl (rn (aS (aSR (rv rfl rfl (rc1 rfl rfl rfl (mayG_cb hl hm) (rv rfl rfl (rn (then_normal ?_))))))))))))
  refine cs_ rfl (fun hc => ?_) (fun hc => ?_)
  · first
    | (cases hc; done)
    | (
      refine aSR (rg 2 rfl (rs rfl rfl rfl rfl rfl rfl rfl (rv rfl rfl (rn (aT ?_)))))
      repeat (first | refine then_ret ?_ | refine inBlock_ret ?_)
      refine rr rfl rfl ?_
      first | rfl | (cases hc; done) | (exfalso; simp [rows] at hc; done) | (exfalso; simp [rows] at hc; omega) | trace_state)
  · first
    | (cases hc; done)
    | (
      refine aK (aS (aSR (rg 4 rfl (rn (then_normal ?_)))))
      refine cs_ rfl (fun hc => ?_) (fun hc => ?_)
      · first
        | (cases hc; done)
        | (
          refine aS ?_
          (first | exact (pos_no (by assumption)).elim | skip) <;> (
          refine aR (rg 3 rfl (rc1 rfl rfl rfl (moveP hl hm ho) (rg 5 rfl (rn (aSR (rg 3 rfl (rs rfl rfl rfl rfl rfl rfl rfl (rv rfl rfl (rn (aT ?_))))))))))
          repeat (first | refine then_ret ?_ | refine inBlock_ret ?_)
          refine rr rfl rfl ?_
          first | rfl | (cases hc; done) | (exfalso; simp [rows] at hc; done) | (exfalso; simp [rows] at hc; omega) | trace_state))
      · first
        | (cases hc; done)
        | (
          refine aK (aS ?_)
          (first | exact (neg_no (by assumption)).elim | skip) <;> (
          refine aR (rg 3 rfl (rc1 rfl rfl rfl (movedG ho) (rg 3 rfl (ra rfl rfl rfl (rs rfl rfl rfl rfl rfl rfl rfl (rv rfl rfl (rn (aSR (rg 3 rfl (rs rfl rfl rfl rfl rfl rfl rfl (rv rfl rfl (rn (aT ?_)))))))))))))
          repeat (first | refine then_ret ?_ | refine inBlock_ret ?_)
          refine rr rfl rfl ?_
          first | rfl | (cases hc; done) | (exfalso; simp [rows] at hc; done) | (exfalso; simp [rows] at hc; omega) | trace_state))))
end
end Go.Proofs.YtbkomicjhfldmaaGreatDoor
namespace Go.Proofs.YtbkomicjhfldmaaGreatDoor
open Go.Pv
set_option maxRecDepth 100000
set_option maxHeartbeats 4000000
set_option linter.unusedSimpArgs false
set_option linter.unusedVariables false
set_option linter.unusedSectionVars false
def mayS (s : Int) : Bool := decide (s ≥ 24) && decide (s ≤ 31)
def sideV (s : Int) : Int := if mayS s then 2 ^ (31 - s).toNat + 1 else 0
theorem shifts {s : Int} (h : (!mayS s) = false) : s = 24 ∨ s = 25 ∨ s = 26 ∨ s = 27 ∨ s = 28 ∨ s = 29 ∨ s = 30 ∨ s = 31 := by
  simp [mayS] at h; omega
theorem side_lit {s : Int} (h : s = 24 ∨ s = 25 ∨ s = 26 ∨ s = 27 ∨ s = 28 ∨ s = 29 ∨ s = 30 ∨ s = 31) : AV.int .i64 (IntKind.i64.wrap (Int.fdiv 2147483648 (2 ^ min (Int.toNat s) IntKind.i64.bits) + 1)) = AV.int .i64 (sideV s) := by
  rcases h with rfl | rfl | rfl | rfl | rfl | rfl | rfl | rfl <;> exact congrArg (AV.int .i64) (by decide)
theorem side_no {s : Int} (h : (!mayS s) = true) : AV.int .i64 0 = AV.int .i64 (sideV s) := by
  have hm : mayS s = false := by simpa using h
  simp [sideV, hm]
section
attribute [local irreducible] awp aops DP PCall ACall Decidable.decide
theorem mayS_c {s : Int} : PCall Tryz.prog 74 [.int .i64 s] (· = .bool (mayS s)) := by
  refine pB_ Tryz.func74 ?_
  refine aSR (rv rfl rfl (rn (aSR (rg 3 rfl ?_))))
  (iterate 2 all_goals (first | refine gy_ (rv rfl rfl ?_) | refine gn_ ?_ | refine gu_ ?_ | refine gs rfl rfl rfl rfl rfl (fun hg => rv rfl rfl ?_) fun hg => ?_)) <;> (
  refine rg 2 rfl (rn (aT ?_))
  repeat (first | refine then_ret ?_ | refine inBlock_ret ?_)
  refine rr rfl rfl ?_
  first | rfl | (simp [*]; done) | (simp [mayS]; done) | (simp [mayS, *]; done) | (simp_all [mayS]; done))
end
section
attribute [local irreducible] awp aops DP PCall ACall Decidable.decide
theorem side_c {s : Int} : PCall Tryz.prog 42 [.int .i64 s] (· = .int .i64 (sideV s)) := by
  refine pB_ Tryz.func42 ?_
  refine aSR (rv rfl rfl (rn (aS (aSR (rv rfl rfl (rc1 rfl rfl rfl (mayS_c) (rv rfl rfl (rn (then_normal ?_)))))))))
  refine cs_ rfl (fun hc => ?_) (fun hc => ?_)
  · first
    | (cases hc; done)
    | (
      refine aSR (rv rfl rfl (rn (aT ?_)))
      repeat (first | refine then_ret ?_ | refine inBlock_ret ?_)
      refine rr rfl rfl ?_
      first | exact side_no hc | exact side_lit (by simp))
  · first
    | (cases hc; done)
    | (
      refine aK (aS ?_)
      (rcases shifts hc with rfl | rfl | rfl | rfl | rfl | rfl | rfl | rfl) <;> (
      refine aR (rg 4 rfl (rn (aT ?_)))
      repeat (first | refine then_ret ?_ | refine inBlock_ret ?_)
      refine rr rfl rfl ?_
      first | exact side_no hc | exact side_lit (by simp)))
end
end Go.Proofs.YtbkomicjhfldmaaGreatDoor
namespace Go.Proofs.YtbkomicjhfldmaaGreatDoor
open Go.Pv
set_option maxRecDepth 100000
set_option maxHeartbeats 4000000
set_option linter.unusedSimpArgs false
set_option linter.unusedVariables false
set_option linter.unusedSectionVars false
def cel (s x : Int) : Int := (W (x + 1073741824)).fdiv (2 ^ min s.toNat 64)
def celT (p q : Bool) (u v : Int) : AV := match p, q with
  | false, _ => .tup [.int .i64 0, .int .i64 0, .iface 55 (.int .i64 1)]
  | true, false => .tup [.int .i64 0, .int .i64 0, .iface 55 (.int .i64 11)]
  | true, true => .tup [.int .i64 u, .int .i64 v, .nilI]
theorem mayS_nn {s : Int} (h : (!mayS s) = false) : ¬ s < 0 := by simp [mayS] at h; omega
def cfarS (s n : Int) : Bool := decide (n < 0) || decide (n ≥ sideV s)
def lowV (s n : Int) : Int := W (W (n * 2 ^ min s.toNat 64) - 1073741824)
def highV (s n : Int) : Int := mn (W (lowV s (W (n + 1)) - 1)) 1073741824
def boxT (p : Bool) (s c r : Int) : AV := match p with
  | false => .tup [.agg [.int .i64 0, .int .i64 0, .int .i64 0, .int .i64 0], .iface 55 (.int .i64 1)]
  | true => .tup [.agg [.int .i64 (lowV s c), .int .i64 (lowV s r), .int .i64 (highV s c), .int .i64 (highV s r)], .nilI]
def inS (s c r : Int) : Bool := !cfarS s c && !cfarS s r
theorem far_bad {s n : Int} (h : mayS s = false) : cfarS s n = true := by
  simp [cfarS, sideV, h]; omega
theorem may_of_far {s n : Int} (h : cfarS s n = false) : mayS s = true := by
  cases hm : mayS s with
  | true => rfl
  | false => rw [far_bad hm] at h; cases h
theorem far_nn {s n : Int} (h : cfarS s n = false) : ¬ s < 0 := mayS_nn (by rw [may_of_far h]; rfl)
theorem cel_1 {s u v : Int} {q : Bool} (h : (!mayS s) = true) : AV.tup [.int .i64 0, .int .i64 0, .iface 55 (.int .i64 1)] = celT (mayS s) q u v := by
  have e : mayS s = false := by simpa using h
  rw [e]; rfl
theorem cel_2 {s u v : Int} {q : Bool} (h : (!mayS s) = false) (h' : (!q) = true) : AV.tup [.int .i64 0, .int .i64 0, .iface 55 (.int .i64 11)] = celT (mayS s) q u v := by
  have e : mayS s = true := by simpa using h
  have e' : q = false := by simpa using h'
  rw [e, e']; rfl
theorem cel_3 {s u v : Int} {q : Bool} (h : (!mayS s) = false) (h' : (!q) = false) : AV.tup [.int .i64 u, .int .i64 v, .nilI] = celT (mayS s) q u v := by
  have e : mayS s = true := by simpa using h
  have e' : q = true := by simpa using h'
  rw [e, e']; rfl
theorem box_1 {s c r : Int} (h : cfarS s c = true ∨ cfarS s r = true) : AV.tup [.agg [.int .i64 0, .int .i64 0, .int .i64 0, .int .i64 0], .iface 55 (.int .i64 1)] = boxT (inS s c r) s c r := by
  have e : inS s c r = false := by rcases h with h | h <;> simp [inS, h]
  rw [e]; rfl
theorem box_2 {s c r : Int} (h : cfarS s c = false) (h' : cfarS s r = false) : AV.tup [.agg [.int .i64 (lowV s c), .int .i64 (lowV s r), .int .i64 (highV s c), .int .i64 (highV s r)], .nilI] = boxT (inS s c r) s c r := by
  have e : inS s c r = true := by simp [inS, h, h']
  rw [e]; rfl
section
attribute [local irreducible] awp aops DP PCall ACall Decidable.decide
theorem cell_c {s x y : Int} : PCall Tryz.prog 184 [.int .i64 s, .agg [.int .i64 x, .int .i64 y]] (· = celT (mayS s) (mayP x y) (cel s x) (cel s y)) := by
  refine pB_ Tryz.func184 ?_
  refine aSR (rb rfl rfl (rg 3 rfl (rn (aS (aB (aSR (rv rfl rfl (rc1 rfl rfl rfl mayS_c (rg 2 rfl (rn (then_normal ?_)))))))))))
  refine cs_ rfl (fun hc => ?_) (fun hc => ?_)
  · first
    | (cases hc; done)
    | (
      refine aSR (rg 4 rfl (rn (aT ?_)))
      repeat (first | refine then_ret ?_ | refine inBlock_ret ?_)
      refine rr rfl rfl ?_
      first | exact cel_1 hc | exact cel_2 (by assumption) hc | exact cel_3 (by assumption) hc)
  · first
    | (cases hc; done)
    | (
      refine aSR (rv rfl rfl (rc1 rfl rfl rfl mayP_c (rg 2 rfl (rn (then_normal ?_)))))
      refine cs_ rfl (fun hc => ?_) (fun hc => ?_)
      · first
        | (cases hc; done)
        | (
          refine aSR (rg 4 rfl (rn (aT ?_)))
          repeat (first | refine then_ret ?_ | refine inBlock_ret ?_)
          refine rr rfl rfl ?_
          first | exact cel_1 hc | exact cel_2 (by assumption) hc | exact cel_3 (by assumption) hc)
      · first
        | (cases hc; done)
        | (
          refine aK (inBlock_normal (aS ?_))
          (have h0 := mayS_nn (by assumption : (!mayS s) = false)) <;> (
          refine dP_ 11 Tryz.mix (dv rfl rfl (fun _ => rfl) (dv rfl rfl (fun _ => rfl) (dv rfl rfl (fun _ => rfl) (dv rfl rfl (fun _ => rfl) (dv rfl rfl (fun _ => (nfO_eq _).trans (opv_shr rfl rfl h0)) (dv rfl rfl (fun _ => rfl) (dv rfl rfl (fun _ => rfl) (dv rfl rfl (fun _ => rfl) (dv rfl rfl (fun _ => rfl) (dv rfl rfl (fun _ => (nfO_eq _).trans (opv_shr rfl rfl h0)) (dv rfl rfl (fun _ => rfl) (dn (rg 2 rfl (rn (aT ?_)))))))))))))))
          repeat (first | refine then_ret ?_ | refine inBlock_ret ?_)
          refine rr rfl rfl ?_
          first | exact cel_1 hc | exact cel_2 (by assumption) hc | exact cel_3 (by assumption) hc)))
end
section
attribute [local irreducible] awp aops DP PCall ACall Decidable.decide
theorem bfar_c {s n : Int} : PCall Tryz.prog 185 [.int .i64 n, .rd [.int .i64 s]] (· = .bool (cfarS s n)) := by
  refine pB_ Tryz.func185 ?_
  refine aSR (rv rfl rfl (rn (aSR (rg 3 rfl ?_))))
  (iterate 2 all_goals (first | refine gy_ (rv rfl rfl ?_) | refine gn_ ?_ | refine gu_ ?_ | refine gs rfl rfl rfl rfl rfl (fun hg => rv rfl rfl ?_) fun hg => ?_)) <;> (
  (first | refine gy_ (rc1 rfl rfl rfl side_c (?_)) | refine gn_ ?_ | refine gu_ ?_ | refine gs rfl rfl rfl rfl rfl (fun hg => rc1 rfl rfl rfl side_c (?_)) fun hg => ?_) <;> (
  ((first | refine gy_ (rv rfl rfl ?_) | refine gn_ ?_ | refine gu_ ?_ | refine gs rfl rfl rfl rfl rfl (fun hg => rv rfl rfl ?_) fun hg => ?_)) <;> (
  refine rg 2 rfl (rn (aT ?_))
  repeat (first | refine then_ret ?_ | refine inBlock_ret ?_)
  refine rr rfl rfl ?_
  first | rfl | (simp [*]; done) | (simp [cfarS]; done) | (simp [cfarS, *]; done) | (simp_all [cfarS]; done))))
end
section
attribute [local irreducible] awp aops DP PCall ACall Decidable.decide
theorem blow_c {s n : Int} (h0 : ¬ s < 0) : PCall Tryz.prog 186 [.int .i64 n, .rd [.int .i64 s]] (· = .int .i64 (lowV s n)) := by
  refine pB_ Tryz.func186 ?_
  refine aSR (rv rfl rfl (rn (aSR (rg 2 rfl (rv' rfl (opv_shl rfl rfl h0) (rg 2 rfl (rn (aT ?_))))))))
  repeat (first | refine then_ret ?_ | refine inBlock_ret ?_)
  refine rr rfl rfl ?_
  rfl
end
section
attribute [local irreducible] awp aops DP PCall ACall Decidable.decide
theorem bhigh_c {s n : Int} (h0 : ¬ s < 0) : PCall Tryz.prog 187 [.int .i64 n, .rd [.fn 186 [.rd [.int .i64 s]]]] (· = .int .i64 (highV s n)) := by
  refine pB_ Tryz.func187 ?_
  refine aSR (rv rfl rfl (rn (aSR (rg 3 rfl (rf rfl rfl (blow_c h0) rfl (rg 3 rfl (rn (aT ?_))))))))
  repeat (first | refine then_ret ?_ | refine inBlock_ret ?_)
  refine rr rfl rfl ?_
  rfl
end
section
attribute [local irreducible] awp aops DP PCall ACall Decidable.decide
theorem box_c {s c r : Int} : PCall Tryz.prog 130 [.int .i64 s, .int .i64 c, .int .i64 r] (· = boxT (inS s c r) s c r) := by
  refine pB_ Tryz.func130 ?_
  refine aSR (rb rfl rfl (ra rfl rfl rfl (rv rfl rfl (rn (aSR (rg 2 rfl (rn (aS (aSR (rg 2 rfl (rf rfl rfl bfar_c rfl (rv rfl rfl ?_))))))))))))
  (iterate 2 all_goals (first | refine gy_ (rv rfl rfl ?_) | refine gn_ ?_ | refine gu_ ?_ | refine gs rfl rfl rfl rfl rfl (fun hg => rv rfl rfl ?_) fun hg => ?_)) <;> (
  (first | refine gy_ (rf rfl rfl bfar_c rfl (?_)) | refine gn_ ?_ | refine gu_ ?_ | refine gs rfl rfl rfl rfl rfl (fun hg => rf rfl rfl bfar_c rfl (?_)) fun hg => ?_) <;> (
  refine rv rfl rfl (rn (then_normal ?_))
  refine cs_ rfl (fun hc => ?_) (fun hc => ?_)
  · first
    | (cases hc; done)
    | (
      refine aSR (rg 2 rfl (rs rfl rfl rfl rfl rfl rfl rfl (rv rfl rfl (rn (aT ?_)))))
      repeat (first | refine then_ret ?_ | refine inBlock_ret ?_)
      refine rr rfl rfl ?_
      first | exact box_1 (.inl hg) | exact box_1 (.inr hc) | exact box_2 hg hc)
  · first
    | (cases hc; done)
    | (
      refine aK (aS ?_)
      (have h0 := far_nn hc) <;> (
      refine aR (rv rfl rfl (ra rfl rfl rfl (rs rfl rfl rfl rfl rfl rfl rfl (rn (aSR (rg 2 rfl (rn (aS (dP_ 13 Tryz.mix (dv rfl rfl (fun _ => rfl) (dv rfl rfl (fun _ => rfl) (df rfl rfl rfl (fun _ => blow_c h0) rfl (dv rfl rfl (fun _ => rfl) (dv rfl rfl (fun _ => rfl) (df rfl rfl rfl (fun _ => blow_c h0) rfl (dv rfl rfl (fun _ => rfl) (dv rfl rfl (fun _ => rfl) (df rfl rfl rfl (fun _ => bhigh_c h0) rfl (dv rfl rfl (fun _ => rfl) (dv rfl rfl (fun _ => rfl) (df rfl rfl rfl (fun _ => bhigh_c h0) rfl (dv rfl rfl (fun _ => rfl) (dn (rs rfl rfl rfl rfl rfl rfl rfl (rv rfl rfl (rn (aT ?_)))))))))))))))))))))))))))
      repeat (first | refine then_ret ?_ | refine inBlock_ret ?_)
      refine rr rfl rfl ?_
      first | exact box_1 (.inl hg) | exact box_1 (.inr hc) | exact box_2 hg hc))))
end
def twoK (k : Nat) : Int := ((2 ^ k : Nat) : Int)
end Go.Proofs.YtbkomicjhfldmaaGreatDoor
namespace Go.Proofs.YtbkomicjhfldmaaGreatDoor
open Go.Pv
set_option maxRecDepth 100000
set_option maxHeartbeats 4000000
set_option linter.unusedSimpArgs false
set_option linter.unusedVariables false
set_option linter.unusedSectionVars false
theorem k8 {k : Nat} (h : 24 ≤ k ∧ k ≤ 31) : k = 24 ∨ k = 25 ∨ k = 26 ∨ k = 27 ∨ k = 28 ∨ k = 29 ∨ k = 30 ∨ k = 31 := by omega
theorem two_ge (k : Nat) : 1 ≤ twoK k := by unfold twoK; have := Nat.two_pow_pos k; exact Int.ofNat_le.2 this
theorem mnc (x y : Int) : mn x y = mn y x := by unfold mn; omega
def rlow (k : Nat) (c : Int) : Int := W (W (c * twoK k) - 1073741824)
def rhigh (k : Nat) (c : Int) : Int := mn 1073741824 (W (W (rlow k c + twoK k) - 1))
theorem low_eq {k : Nat} {c : Int} (h : 24 ≤ k ∧ k ≤ 31) : rlow k c = lowV (k : Int) c := by
  have hm : min ((k : Int)).toNat 64 = k := by simp; omega
  unfold rlow lowV
  rw [hm]
  have ht : (2 : Int) ^ k = twoK k := by unfold twoK; push_cast; rfl
  rw [ht]
theorem high_eq {k : Nat} {c : Int} (h : 24 ≤ k ∧ k ≤ 31) (hc : cfarS (k : Int) c = false) : rhigh k c = highV (k : Int) c := by
  have hs : 0 ≤ c ∧ c < sideV (k : Int) := by simp [cfarS] at hc; omega
  unfold rhigh highV
  rw [← low_eq h, mnc]
  congr 1
  unfold rlow
  have hb : sideV (k : Int) ≤ 129 := by rcases k8 h with rfl | rfl | rfl | rfl | rfl | rfl | rfl | rfl <;> decide
  have e1 : W (c + 1) = c + 1 := W_id (by omega)
  rw [e1]
  have hk : 1 ≤ twoK k ∧ twoK k ≤ 2147483648 := by rcases k8 h with rfl | rfl | rfl | rfl | rfl | rfl | rfl | rfl <;> decide
  have hp : 0 ≤ c * twoK k := Int.mul_nonneg hs.1 (by omega)
  have hq : c * twoK k ≤ 128 * 2147483648 := Int.mul_le_mul (by omega) hk.2 (by omega) (by omega)
  have e0 : (c + 1) * twoK k = c * twoK k + twoK k := by rw [Int.add_mul, Int.one_mul]
  rw [e0]
  generalize c * twoK k = z at *
  rw [W_id (n := z) (by omega), W_id (n := z + twoK k) (by omega), W_id (n := z - 1073741824) (by omega), W_id (n := z + twoK k - 1073741824) (by omega), W_id (n := z - 1073741824 + twoK k) (by omega), W_id (by omega), W_id (by omega)]
  omega
theorem cell_cb {s x y : Int} {p q : Bool} (h : mayS s = p) (h' : mayP x y = q) : PCall Tryz.prog 184 [.int .i64 s, .agg [.int .i64 x, .int .i64 y]] (· = celT p q (cel s x) (cel s y)) := h ▸ h' ▸ cell_c
theorem box_cb {s c r : Int} {p : Bool} (h : inS s c r = p) : PCall Tryz.prog 130 [.int .i64 s, .int .i64 c, .int .i64 r] (· = boxT p s c r) := h ▸ box_c
end Go.Proofs.YtbkomicjhfldmaaGreatDoor
namespace Go.Proofs.YtbkomicjhfldmaaGreatDoor
open Go.Pv
set_option maxRecDepth 100000
set_option maxHeartbeats 4000000
set_option linter.unusedSimpArgs false
set_option linter.unusedVariables false
set_option linter.unusedSectionVars false
theorem cel_lit {k : Nat} {x : Int} (h : 24 ≤ k ∧ k ≤ 31) (hx : Bd x) : cel (k : Int) x = (x + 1073741824) / twoK k := by
  have hb : Bd x := hx
  unfold Bd at hb
  have e : W (x + 1073741824) = x + 1073741824 := W_id (n := x + 1073741824) (by omega)
  have hm : min ((k : Int)).toNat 64 = k := by simp; omega
  unfold cel
  rw [e, hm]
  have ht : (2 : Int) ^ k = twoK k := by unfold twoK; push_cast; rfl
  rw [ht, Int.fdiv_eq_ediv_of_nonneg _ (by have := two_ge k; omega)]
theorem cel_in {k : Nat} {x : Int} (h : 24 ≤ k ∧ k ≤ 31) (hx : Bd x) : cfarS (k : Int) (cel (k : Int) x) = false ∧ lowV (k : Int) (cel (k : Int) x) ≤ x ∧ x ≤ highV (k : Int) (cel (k : Int) x) := by
  have hb : Bd x := hx
  unfold Bd at hb
  have hp := two_ge k
  rw [cel_lit h hx]
  have hq : (twoK k = 16777216 ∧ sideV (k : Int) = 129) ∨ (twoK k = 33554432 ∧ sideV (k : Int) = 65) ∨ (twoK k = 67108864 ∧ sideV (k : Int) = 33) ∨ (twoK k = 134217728 ∧ sideV (k : Int) = 17) ∨ (twoK k = 268435456 ∧ sideV (k : Int) = 9) ∨ (twoK k = 536870912 ∧ sideV (k : Int) = 5) ∨ (twoK k = 1073741824 ∧ sideV (k : Int) = 3) ∨ (twoK k = 2147483648 ∧ sideV (k : Int) = 2) := by
    rcases k8 h with rfl | rfl | rfl | rfl | rfl | rfl | rfl | rfl <;> decide
  have hz : ∃ z, (x + 1073741824) / twoK k = z ∧ 0 ≤ z ∧ z < sideV (k : Int) ∧ z * twoK k ≤ x + 1073741824 ∧ x + 1073741824 < z * twoK k + twoK k ∧ 0 ≤ z * twoK k ∧ twoK k ≤ 2147483648 := by
    rcases hq with ⟨e1, e2⟩ | ⟨e1, e2⟩ | ⟨e1, e2⟩ | ⟨e1, e2⟩ | ⟨e1, e2⟩ | ⟨e1, e2⟩ | ⟨e1, e2⟩ | ⟨e1, e2⟩ <;> rw [e1, e2] <;> exact ⟨_, rfl, by omega, by omega, by omega, by omega, by omega, by omega⟩
  obtain ⟨z, hz, h1, h2, h3, h4, h5, h6⟩ := hz
  rw [hz]
  have hf : cfarS (k : Int) z = false := by simp [cfarS]; omega
  refine ⟨hf, ?_, ?_⟩
  · rw [← low_eq h]
    unfold rlow
    rw [W_id (n := z * twoK k) (by omega), W_id (by omega)]; omega
  · rw [← high_eq h hf]
    unfold rhigh rlow
    generalize z * twoK k = u at *
    rw [W_id (n := u) (by omega), W_id (n := u - 1073741824) (by omega), W_id (n := u - 1073741824 + twoK k) (by omega), W_id (by omega)]
    unfold mn
    split <;> omega
end Go.Proofs.YtbkomicjhfldmaaGreatDoor
namespace Go.Proofs.YtbkomicjhfldmaaGreatDoor
open Go.Pv
set_option maxRecDepth 100000
set_option maxHeartbeats 4000000
set_option linter.unusedSimpArgs false
set_option linter.unusedVariables false
set_option linter.unusedSectionVars false
theorem mayR_1 {a b c d : Int} (h : mayR a b c d = true) : mayP a b = true ∧ mayP c d = true ∧ a ≤ c ∧ b ≤ d := by
  simp only [mayR, Bool.and_eq_true, decide_eq_true_eq] at h; exact ⟨h.1.1.1, h.1.1.2, h.1.2, h.2⟩
theorem may_k {s : Int} (h : mayS s = true) : ∃ k : Nat, s = (k : Int) ∧ 24 ≤ k ∧ k ≤ 31 := by
  simp [mayS] at h; exact ⟨s.toNat, by omega, by omega, by omega⟩
theorem in_cel {s x y : Int} (h : mayS s = true) (hm : mayP x y = true) : inS s (cel s x) (cel s y) = true := by
  obtain ⟨k, rfl, hk⟩ := may_k h
  have hb := mayP_iff.1 hm
  unfold inS
  rw [(cel_in hk hb.1).1, (cel_in hk hb.2).1]; rfl
def cvV (s a b c d : Int) : Int × Int × Int × Int := (mn (lowV s (cel s a)) (lowV s (cel s c)), mn (lowV s (cel s b)) (lowV s (cel s d)), mx (highV s (cel s a)) (highV s (cel s c)), mx (highV s (cel s b)) (highV s (cel s d)))
theorem mayR_cb {a b c d : Int} {p : Bool} (h : mayR a b c d = p) : PCall Tryz.prog 75 [.agg [.int .i64 a, .int .i64 b, .int .i64 c, .int .i64 d]] (· = .bool p) := h ▸ mayR_c
theorem holdsR_cb {a b c d a' b' c' d' : Int} {p : Bool} (h : holdsR a b c d a' b' c' d' = p) : PCall Tryz.prog 136 [.agg [.int .i64 a, .int .i64 b, .int .i64 c, .int .i64 d], .agg [.int .i64 a', .int .i64 b', .int .i64 c', .int .i64 d']] (· = .bool p) := h ▸ holdsR_c
section
attribute [local irreducible] awp aops DP PCall ACall Decidable.decide Nat.mod simpB mayP mayR mayG inE inR box addB holdsR inG mayS cel lowV highV cfarS inS
theorem span_c {s a b c d : Int} {p q : Bool} (hp : mayR a b c d = p) (hq : mayS s = q) : PCall Tryz.prog 129 [.int .i64 s, .agg [.int .i64 a, .int .i64 b, .int .i64 c, .int .i64 d]] (· = boxO (p && q) (cel s a, cel s b, cel s c, cel s d)) := by
  refine pB_ Tryz.func129 ?_
  refine aS ?_
  (rcases p with _ | _ <;> rcases q with _ | _) <;> (
  refine aR (rb rfl rfl (ra rfl rfl rfl (rv rfl rfl (rn (aS (aSR (rv rfl rfl (rc1 rfl rfl rfl (mayR_cb hp) (rv rfl rfl (rn (then_normal ?_)))))))))))
  refine cs_ rfl (fun hc => ?_) (fun hc => ?_)
  · first
    | (cases hc; done)
    | (
      refine aSR (rg 2 rfl (rs rfl rfl rfl rfl rfl rfl rfl (rv rfl rfl (rn (aT ?_)))))
      repeat (first | refine then_ret ?_ | refine inBlock_ret ?_)
      refine rr rfl rfl ?_
      first | rfl | (cases hc; done) | trace_state)
  · first
    | (cases hc; done)
    | (
      refine aK (aSR (rg 6 rfl (rc1 rfl rfl rfl (cell_cb hq (mayR_1 hp).1) (rg 7 rfl (rn (aS (aSR (rg 2 rfl (rn (then_normal ?_))))))))))
      refine cs_ rfl (fun hc => ?_) (fun hc => ?_)
      · first
        | (cases hc; done)
        | (
          refine aSR (rg 2 rfl (rs rfl rfl rfl rfl rfl rfl rfl (rv rfl rfl (rn (aT ?_)))))
          repeat (first | refine then_ret ?_ | refine inBlock_ret ?_)
          refine rr rfl rfl ?_
          first | rfl | (cases hc; done) | trace_state)
      · first
        | (cases hc; done)
        | (
          refine aK (aSR (rg 6 rfl (rc1 rfl rfl rfl (cell_cb hq (mayR_1 hp).2.1) (rg 7 rfl (rn (aSR (rg 6 rfl (rs rfl rfl rfl rfl rfl rfl rfl (rv rfl rfl (rn (aT ?_)))))))))))
          repeat (first | refine then_ret ?_ | refine inBlock_ret ?_)
          refine rr rfl rfl ?_
          first | rfl | (cases hc; done) | trace_state)))
end
section
attribute [local irreducible] awp aops DP PCall ACall Decidable.decide Nat.mod simpB mayP mayR mayG inE inR box addB holdsR inG mayS cel lowV highV cfarS inS
theorem cbox_c {s a b c d : Int} {p q : Bool} (hp : mayR a b c d = p) (hq : mayS s = q) : PCall Tryz.prog 81 [.int .i64 s, .agg [.int .i64 a, .int .i64 b, .int .i64 c, .int .i64 d]] (· = boxO (p && q) (cvV s a b c d)) := by
  refine pB_ Tryz.func81 ?_
  refine aS ?_
  (rcases p with _ | _ <;> rcases q with _ | _) <;> (
  refine aR (rb rfl rfl (ra rfl rfl rfl (rv rfl rfl (rn (aSR (rg 2 rfl (rc1 rfl rfl rfl (span_c hp hq) (rg 3 rfl (ra rfl rfl rfl (rs rfl rfl rfl rfl rfl rfl rfl (rv rfl rfl (rn (aS (aSR (rg 2 rfl (rn (then_normal ?_)))))))))))))))))
  refine cs_ rfl (fun hc => ?_) (fun hc => ?_)
  · first
    | (cases hc; done)
    | (
      refine aSR (rg 2 rfl (rs rfl rfl rfl rfl rfl rfl rfl (rv rfl rfl (rn (aT ?_)))))
      repeat (first | refine then_ret ?_ | refine inBlock_ret ?_)
      refine rr rfl rfl ?_
      first | rfl | (cases hc; done) | trace_state)
  · first
    | (cases hc; done)
    | (
      refine aK (aSR (rg 5 rfl (rc1 rfl rfl rfl (box_cb (in_cel hq (mayR_1 hp).1)) (rg 3 rfl (ra rfl rfl rfl (rs rfl rfl rfl rfl rfl rfl rfl (rv rfl rfl (rn (aS (aSR (rg 2 rfl (rn (then_normal ?_)))))))))))))
      refine cs_ rfl (fun hc => ?_) (fun hc => ?_)
      · first
        | (cases hc; done)
        | (
          refine aSR (rg 2 rfl (rs rfl rfl rfl rfl rfl rfl rfl (rv rfl rfl (rn (aT ?_)))))
          repeat (first | refine then_ret ?_ | refine inBlock_ret ?_)
          refine rr rfl rfl ?_
          first | rfl | (cases hc; done) | trace_state)
      · first
        | (cases hc; done)
        | (
          refine aK (aSR (rg 5 rfl (rc1 rfl rfl rfl (box_cb (in_cel hq (mayR_1 hp).2.1)) (rg 3 rfl (ra rfl rfl rfl (rs rfl rfl rfl rfl rfl rfl rfl (rv rfl rfl (rn (aSR (rg 2 rfl (rc1 rfl rfl rfl joinR_c (rv rfl rfl (rs rfl rfl rfl rfl rfl rfl rfl (rv rfl rfl (rn (aT ?_))))))))))))))))
          repeat (first | refine then_ret ?_ | refine inBlock_ret ?_)
          refine rr rfl rfl ?_
          first | rfl | (cases hc; done) | trace_state)))
end
theorem bx_may {a b c d : Int} {l : List Pt} (hm : mayG a b c d l = true) : mayR (bxG a b c d l).1 (bxG a b c d l).2.1 (bxG a b c d l).2.2.1 (bxG a b c d l).2.2.2 = true := by
  cases l with
  | nil => exact hm
  | cons q t =>
    have hs := (mayG_simp hm).2
    have ha : allMay (q :: t) = true := List.all_eq_true.2 hs.may
    obtain ⟨b1, b2, b3, b4⟩ := (bd_box ha t.length (by simp)).1
    have key : ∀ i, 0 < i → i ≤ (q :: t).length → (box (q :: t) i).1 ≤ (box (q :: t) i).2.2.1 ∧ (box (q :: t) i).2.1 ≤ (box (q :: t) i).2.2.2 := by
      intro i
      induction i with
      | zero => intro h; omega
      | succ i ih =>
        intro _ hi
        by_cases h0 : i = 0
        · subst h0; rw [box_one (by omega) rfl]; simp
        · rw [box_succ (i := i) (by omega) (by simp; omega)]
          have := ih (by omega) (by omega)
          simp only [mn_eq, mx_eq]; omega
    have hk := key (q :: t).length (by simp) (Nat.le_refl _)
    exact mayR_iff.2 ⟨⟨b1, b2, b3, b4⟩, hk.1, hk.2⟩
def zoR (A B C D : Int) (r : Int × Int × Int × Int) : Int × Int × Int × Int := (W (A - r.1), W (B - r.2.1), W (C - r.2.2.1), W (D - r.2.2.2))
section
attribute [local irreducible] awp aops DP PCall ACall Decidable.decide Nat.mod simpB mayP mayR mayG inE inR box addB holdsR inG mayS cel lowV highV cfarS inS
theorem zof_c {a b c d A B C D : Int} {l : List Pt} {m p q : Bool} (hl : l.length ≤ maxLen) (hm : mayG a b c d l = m) (hp : mayR A B C D = p) (hq : holdsR A B C D (bxG a b c d l).1 (bxG a b c d l).2.1 (bxG a b c d l).2.2.1 (bxG a b c d l).2.2.2 = q) : PCall Tryz.prog 88 [.agg [.int .i64 (a), .int .i64 (b), .int .i64 (c), .int .i64 (d), .sl (rows l)], .agg [.int .i64 A, .int .i64 B, .int .i64 C, .int .i64 D]] (· = boxO (m && (p && q)) (zoR A B C D (bxG a b c d l))) := by
  refine pB_ Tryz.func88 ?_
  refine aS ?_
  (rcases m with _ | _ <;> rcases p with _ | _ <;> rcases q with _ | _) <;> (
  refine aR (rb rfl rfl (rb rfl rfl (ra rfl rfl rfl (rv rfl rfl (rn (aSR (rv rfl rfl (rc1 rfl rfl rfl (boxG_c hl hm) (rg 3 rfl (ra rfl rfl rfl (rs rfl rfl rfl rfl rfl rfl rfl (rv rfl rfl (rn (aS (aSR (rg 3 rfl ?_))))))))))))))))
  ((first | refine gy_ (rv rfl rfl ?_) | refine gn_ ?_ | refine gu_ ?_ | refine gs rfl rfl rfl rfl rfl (fun hg => rv rfl rfl ?_) fun hg => ?_)) <;> (
  (first | refine gy_ (rc1 rfl rfl rfl (mayR_cb hp) (?_)) | refine gn_ ?_ | refine gu_ ?_ | refine gs rfl rfl rfl rfl rfl (fun hg => rc1 rfl rfl rfl (mayR_cb hp) (?_)) fun hg => ?_) <;> (
  ((first | refine gy_ (rv rfl rfl ?_) | refine gn_ ?_ | refine gu_ ?_ | refine gs rfl rfl rfl rfl rfl (fun hg => rv rfl rfl ?_) fun hg => ?_)) <;> (
  refine rg 2 rfl ?_
  (iterate 2 all_goals (first | refine gy_ (rv rfl rfl ?_) | refine gn_ ?_ | refine gu_ ?_ | refine gs rfl rfl rfl rfl rfl (fun hg => rv rfl rfl ?_) fun hg => ?_)) <;> (
  (first | refine gy_ (rc1 rfl rfl rfl (holdsR_cb hq) (?_)) | refine gn_ ?_ | refine gu_ ?_ | refine gs rfl rfl rfl rfl rfl (fun hg => rc1 rfl rfl rfl (holdsR_cb hq) (?_)) fun hg => ?_) <;> (
  ((first | refine gy_ (rv rfl rfl ?_) | refine gn_ ?_ | refine gu_ ?_ | refine gs rfl rfl rfl rfl rfl (fun hg => rv rfl rfl ?_) fun hg => ?_)) <;> (
  refine rv rfl rfl (rn (then_normal ?_))
  refine cs_ rfl (fun hc => ?_) (fun hc => ?_)
  · first
    | (cases hc; done)
    | (
      refine aSR (rg 2 rfl (rs rfl rfl rfl rfl rfl rfl rfl (rv rfl rfl (rn (aT ?_)))))
      repeat (first | refine then_ret ?_ | refine inBlock_ret ?_)
      refine rr rfl rfl ?_
      first | rfl | (cases hc; done) | trace_state)
  · first
    | (cases hc; done)
    | (
      refine aK (aSR (rg 21 rfl (rs rfl rfl rfl rfl rfl rfl rfl (rv rfl rfl (rn (aT ?_))))))
      repeat (first | refine then_ret ?_ | refine inBlock_ret ?_)
      refine rr rfl rfl ?_
      first | rfl | (cases hc; done) | trace_state))))))))
end
def safeB (z : Bool) (r : Int × Int × Int × Int) (v : Pt) : Bool := z && inR r.1 r.2.1 r.2.2.1 r.2.2.2 v.1 v.2
section
attribute [local irreducible] awp aops DP PCall ACall Decidable.decide Nat.mod simpB mayP mayR mayG inE inR box addB holdsR inG mayS cel lowV highV cfarS inS
theorem safe_c {a b c d A B C D : Int} {l : List Pt} {m p q : Bool} {v : Pt} (hl : l.length ≤ maxLen) (hm : mayG a b c d l = m) (hp : mayR A B C D = p) (hq : holdsR A B C D (bxG a b c d l).1 (bxG a b c d l).2.1 (bxG a b c d l).2.2.1 (bxG a b c d l).2.2.2 = q) : PCall Tryz.prog 50 [.agg [.int .i64 (a), .int .i64 (b), .int .i64 (c), .int .i64 (d), .sl (rows l)], .agg [.int .i64 A, .int .i64 B, .int .i64 C, .int .i64 D], .agg [.int .i64 (v).1, .int .i64 (v).2]] (· = .bool (safeB (m && (p && q)) (zoR A B C D (bxG a b c d l)) v)) := by
  refine pB_ Tryz.func50 ?_
  refine aS ?_
  (rcases m with _ | _ <;> rcases p with _ | _ <;> rcases q with _ | _) <;> (
  refine aR (rb rfl rfl (rb rfl rfl (rb rfl rfl (rv rfl rfl (rn (aSR (rg 2 rfl (rc1 rfl rfl rfl (zof_c hl hm hp hq) (rg 3 rfl (ra rfl rfl rfl (rs rfl rfl rfl rfl rfl rfl rfl (rv rfl rfl (rn (aSR (rg 3 rfl ?_)))))))))))))))
  (iterate 2 all_goals (first | refine gy_ (rv rfl rfl ?_) | refine gn_ ?_ | refine gu_ ?_ | refine gs rfl rfl rfl rfl rfl (fun hg => rv rfl rfl ?_) fun hg => ?_)) <;> (
  (first | refine gy_ (rc1 rfl rfl rfl inR_c (?_)) | refine gn_ ?_ | refine gu_ ?_ | refine gs rfl rfl rfl rfl rfl (fun hg => rc1 rfl rfl rfl inR_c (?_)) fun hg => ?_) <;> (
  refine rg 2 rfl (rn (aT ?_))
  repeat (first | refine then_ret ?_ | refine inBlock_ret ?_)
  refine rr rfl rfl ?_
  first | rfl | (cases hc; done) | trace_state)))
end
def cvG (s a b c d : Int) (l : List Pt) : Int × Int × Int × Int := cvV s (bxG a b c d l).1 (bxG a b c d l).2.1 (bxG a b c d l).2.2.1 (bxG a b c d l).2.2.2
section
attribute [local irreducible] awp aops DP PCall ACall Decidable.decide Nat.mod simpB mayP mayR mayG inE inR box addB holdsR inG mayS cel lowV highV cfarS inS
theorem zcover_c {s a b c d : Int} {l : List Pt} {m q : Bool} (hl : l.length ≤ maxLen) (hm : mayG a b c d l = m) (hq : mayS s = q) : PCall Tryz.prog 45 [.int .i64 s, .agg [.int .i64 (a), .int .i64 (b), .int .i64 (c), .int .i64 (d), .sl (rows l)]] (· = boxO (m && q) (cvG s a b c d l)) := by
  refine pB_ Tryz.func45 ?_
  refine aS ?_
  (rcases m with _ | _ <;> rcases q with _ | _) <;> (
  refine aR (rb rfl rfl (ra rfl rfl rfl (rv rfl rfl (rn (aSR (rv rfl rfl (rc1 rfl rfl rfl (boxG_c hl hm) (rg 3 rfl (ra rfl rfl rfl (rs rfl rfl rfl rfl rfl rfl rfl (rv rfl rfl (rn (aS (aSR (rg 2 rfl (rn (then_normal ?_)))))))))))))))))
  refine cs_ rfl (fun hc => ?_) (fun hc => ?_)
  · first
    | (cases hc; done)
    | (
      refine aSR (rg 2 rfl (rs rfl rfl rfl rfl rfl rfl rfl (rv rfl rfl (rn (aT ?_)))))
      repeat (first | refine then_ret ?_ | refine inBlock_ret ?_)
      refine rr rfl rfl ?_
      first | rfl | (cases hc; done) | trace_state)
  · first
    | (cases hc; done)
    | (
      refine aK (aSR (rg 2 rfl (rc1 rfl rfl rfl (cbox_c (bx_may hm) hq) (rg 2 rfl (rs rfl rfl rfl rfl rfl rfl rfl (rv rfl rfl (rn (aT ?_))))))))
      repeat (first | refine then_ret ?_ | refine inBlock_ret ?_)
      refine rr rfl rfl ?_
      first | rfl | (cases hc; done) | trace_state))
end
end Go.Proofs.YtbkomicjhfldmaaGreatDoor
namespace Go.Proofs.YtbkomicjhfldmaaGreatDoor
open Go.Pv
set_option maxRecDepth 100000
set_option maxHeartbeats 4000000
set_option linter.unusedSimpArgs false
set_option linter.unusedVariables false
set_option linter.unusedSectionVars false
structure tRect where
  X1 : Int
  Y1 : Int
  X2 : Int
  Y2 : Int
def c_tRect (x : tRect) : List AV := [.int .i64 x.X1, .int .i64 x.Y1, .int .i64 x.X2, .int .i64 x.Y2]
structure tPoint where
  X : Int
  Y : Int
def c_tPoint (x : tPoint) : List AV := [.int .i64 x.X, .int .i64 x.Y]
structure tRegion where
  Rect : tRect
  Poly : List tPoint
def c_tRegion (x : tRegion) : List AV := [.int .i64 x.Rect.X1, .int .i64 x.Rect.Y1, .int .i64 x.Rect.X2, .int .i64 x.Rect.Y2, .sl (x.Poly.map c_tPoint)]
def ok_tRect (x : tRect) : Prop := Go.Pv.okI .i64 x.X1 ∧ Go.Pv.okI .i64 x.Y1 ∧ Go.Pv.okI .i64 x.X2 ∧ Go.Pv.okI .i64 x.Y2
theorem dat_tRect {n : Nat} {cs : List AV} (h : Dat Tryz.prog n 23 cs) : ∃ a : tRect, cs = c_tRect a ∧ ok_tRect a := by
  obtain ⟨m, rfl, h⟩ := dat_struct (i := Tryz.i23) rfl rfl h
  obtain ⟨a0, r0, rfl, _, h0, h⟩ := h
  obtain ⟨a1, r1, rfl, _, h1, h⟩ := h
  obtain ⟨a2, r2, rfl, _, h2, h⟩ := h
  obtain ⟨a3, r3, rfl, _, h3, h⟩ := h
  obtain rfl : r3 = [] := h
  obtain ⟨x0, rfl, k0⟩ := dat_Int (i := Tryz.i2) rfl rfl h0
  obtain ⟨x1, rfl, k1⟩ := dat_Int (i := Tryz.i2) rfl rfl h1
  obtain ⟨x2, rfl, k2⟩ := dat_Int (i := Tryz.i2) rfl rfl h2
  obtain ⟨x3, rfl, k3⟩ := dat_Int (i := Tryz.i2) rfl rfl h3
  exact ⟨⟨x0, x1, x2, x3⟩, rfl, k0, k1, k2, k3⟩
def ok_tPoint (x : tPoint) : Prop := Go.Pv.okI .i64 x.X ∧ Go.Pv.okI .i64 x.Y
theorem dat_tPoint {n : Nat} {cs : List AV} (h : Dat Tryz.prog n 43 cs) : ∃ a : tPoint, cs = c_tPoint a ∧ ok_tPoint a := by
  obtain ⟨m, rfl, h⟩ := dat_struct (i := Tryz.i43) rfl rfl h
  obtain ⟨a0, r0, rfl, _, h0, h⟩ := h
  obtain ⟨a1, r1, rfl, _, h1, h⟩ := h
  obtain rfl : r1 = [] := h
  obtain ⟨x0, rfl, k0⟩ := dat_Int (i := Tryz.i2) rfl rfl h0
  obtain ⟨x1, rfl, k1⟩ := dat_Int (i := Tryz.i2) rfl rfl h1
  exact ⟨⟨x0, x1⟩, rfl, k0, k1⟩
def ok_tRegion (x : tRegion) : Prop := ok_tRect x.Rect ∧ okLs (ok_tPoint) x.Poly
theorem dat_tRegion {n : Nat} {cs : List AV} (h : Dat Tryz.prog n 26 cs) : ∃ a : tRegion, cs = c_tRegion a ∧ ok_tRegion a := by
  obtain ⟨m, rfl, h⟩ := dat_struct (i := Tryz.i26) rfl rfl h
  obtain ⟨a0, r0, rfl, _, h0, h⟩ := h
  obtain ⟨a1, r1, rfl, _, h1, h⟩ := h
  obtain rfl : r1 = [] := h
  obtain ⟨x0, rfl, k0⟩ := dat_tRect h0
  obtain ⟨x1, rfl, k1⟩ := dat_List (c := c_tPoint) (Q := ok_tPoint) (i := Tryz.i24) rfl rfl (fun _ _ h => dat_tPoint h) h1
  exact ⟨⟨x0, x1⟩, rfl, k0, k1⟩
theorem datV_tRegion {x : AV} (h : DatV Tryz.prog 26 x) : ∃ a : tRegion, x = .agg (c_tRegion a) ∧ ok_tRegion a := by
  obtain ⟨n, cs, rfl, h2⟩ := datV_s (i := Tryz.i26) rfl rfl h
  obtain ⟨a, rfl, k⟩ := dat_tRegion h2
  exact ⟨a, rfl, k⟩
def ptL (l : List tPoint) : List Pt := l.map fun p => (p.X, p.Y)
theorem rows_ptL (l : List tPoint) : rows (ptL l) = l.map c_tPoint := by
  unfold rows ptL; rw [List.map_map]; rfl
theorem len_ptL (l : List tPoint) : (ptL l).length = l.length := by unfold ptL; rw [List.length_map]
def mvR (g : tRegion) (v : tPoint) : tRegion := match g.Poly with
  | [] => ⟨⟨W (g.Rect.X1 + v.X), W (g.Rect.Y1 + v.Y), W (g.Rect.X2 + v.X), W (g.Rect.Y2 + v.Y)⟩, []⟩
  | _ :: _ => ⟨⟨0, 0, 0, 0⟩, g.Poly.map fun p => ⟨(mv (v.X, v.Y) (p.X, p.Y)).1, (mv (v.X, v.Y) (p.X, p.Y)).2⟩⟩
def mayT (g : tRegion) : Bool := mayG g.Rect.X1 g.Rect.Y1 g.Rect.X2 g.Rect.Y2 (ptL g.Poly)
def mayX (r : tRect) : Bool := mayR r.X1 r.Y1 r.X2 r.Y2
def okT' (g : tRegion) (v : tPoint) : Bool := okG g.Rect.X1 g.Rect.Y1 g.Rect.X2 g.Rect.Y2 (ptL g.Poly) (v.X, v.Y)
def z4 : tRect := ⟨0, 0, 0, 0⟩
def mvO (g : tRegion) (v : tPoint) : tRegion × Er := bif mayT g then (bif okT' g v then (mvR g v, none) else (⟨z4, []⟩, some 11)) else (⟨z4, []⟩, some 1)
def rc4 (q : Int × Int × Int × Int) : tRect := ⟨q.1, q.2.1, q.2.2.1, q.2.2.2⟩
def bxT (g : tRegion) : tRect := rc4 (bxG g.Rect.X1 g.Rect.Y1 g.Rect.X2 g.Rect.Y2 (ptL g.Poly))
def hdR (a b : tRect) : Bool := holdsR a.X1 a.Y1 a.X2 a.Y2 b.X1 b.Y1 b.X2 b.Y2
def safT (g : tRegion) (b : tRect) (v : tPoint) : Bool := safeB (mayT g && (mayX b && hdR b (bxT g))) (zoR b.X1 b.Y1 b.X2 b.Y2 (bxG g.Rect.X1 g.Rect.Y1 g.Rect.X2 g.Rect.Y2 (ptL g.Poly))) (v.X, v.Y)
def cvT (s : Int) (g : tRegion) : tRect := rc4 (cvG s g.Rect.X1 g.Rect.Y1 g.Rect.X2 g.Rect.Y2 (ptL g.Poly))
def cvO (s : Int) (g : tRegion) : tRect × Er := bif mayT g && mayS s then (cvT s g, none) else (z4, some 1)
def inT (g : tRegion) (p : tPoint) : Bool := inG g.Rect.X1 g.Rect.Y1 g.Rect.X2 g.Rect.Y2 (ptL g.Poly) (p.X, p.Y)
theorem pcall_err {P : Program} {f : FuncId} {args : List AV} {x : AV} {t : TypeId} {e : Er} (h : PCall P f args (· = .tup [x, errK t e])) : PCall P f args (· = .tup [x, .err t e]) := pcall_errs (xs := [x]) h
theorem mvO_av (g : tRegion) (v : tPoint) : moveGO (mayT g) (okT' g v) g.Rect.X1 g.Rect.Y1 g.Rect.X2 g.Rect.Y2 (ptL g.Poly) (v.X, v.Y) = .tup [.agg (c_tRegion (mvO g v).1), errK 55 (mvO g v).2] := by
  unfold mvO
  cases mayT g with
  | false => cases okT' g v <;> rfl
  | true =>
    cases okT' g v with
    | false => rfl
    | true =>
      cases g with
      | mk r l =>
        cases l with
        | nil => rfl
        | cons q t =>
          show AV.tup [.agg [.int .i64 0, .int .i64 0, .int .i64 0, .int .i64 0, .sl (rows ((ptL (q :: t)).map (mv (v.X, v.Y))))], .nilI] = _
          unfold rows ptL
          rw [List.map_map, List.map_map]
          simp only [cond_true, mvR, c_tRegion, List.map_map]
          rfl
def dregion_May (fu : Nat) (g : tRegion) : Option Bool := if g.Poly.length ≤ maxLen then some (mayT g) else none
theorem dregion_May_l {fu : Nat} {g : tRegion} {r : Bool} (h : dregion_May fu g = some r) : PCall Tryz.prog 43 [.agg (c_tRegion g)] (· = .bool r) := by
  unfold dregion_May at h
  split at h
  · rename_i hl
    cases h
    have := @mayG_c g.Rect.X1 g.Rect.Y1 g.Rect.X2 g.Rect.Y2 (ptL g.Poly) (by rw [len_ptL]; exact hl)
    rw [rows_ptL] at this
    exact this
  · cases h
def dregion_In (fu : Nat) (g : tRegion) (p : tPoint) : Option Bool := if g.Poly.length ≤ maxLen then some (inT g p) else none
theorem dregion_In_l {fu : Nat} {g : tRegion} {p : tPoint} {r : Bool} (h : dregion_In fu g p = some r) : PCall Tryz.prog 61 [.agg (c_tRegion g), .agg (c_tPoint p)] (· = .bool r) := by
  unfold dregion_In at h
  split at h
  · rename_i hl
    cases h
    have := @inG_c g.Rect.X1 g.Rect.Y1 g.Rect.X2 g.Rect.Y2 (ptL g.Poly) (p.X, p.Y) (by rw [len_ptL]; exact hl)
    rw [rows_ptL] at this
    exact this
  · cases h
def dregion_Move (fu : Nat) (g : tRegion) (v : tPoint) : Option (tRegion × Er) := if g.Poly.length ≤ maxLen then some (mvO g v) else none
theorem dregion_Move_l {fu : Nat} {g : tRegion} {v : tPoint} {r : tRegion × Er} (h : dregion_Move fu g v = some r) : PCall Tryz.prog 49 [.agg (c_tRegion g), .agg (c_tPoint v)] (· = .tup [.agg (c_tRegion r.1), .err 55 r.2]) := by
  unfold dregion_Move at h
  split at h
  · rename_i hl
    cases h
    have := moveG_c (a := g.Rect.X1) (b := g.Rect.Y1) (c := g.Rect.X2) (d := g.Rect.Y2) (l := ptL g.Poly) (v := (v.X, v.Y)) (m := mayT g) (ok := okT' g v) (by rw [len_ptL]; exact hl) rfl rfl
    rw [rows_ptL, mvO_av] at this
    exact pcall_err this
  · cases h
def dzone_Cover (fu : Nat) (s : Int) (g : tRegion) : Option (tRect × Er) := if g.Poly.length ≤ maxLen then some (cvO s g) else none
theorem cvO_av (s : Int) (g : tRegion) : boxO (mayT g && mayS s) (cvG s g.Rect.X1 g.Rect.Y1 g.Rect.X2 g.Rect.Y2 (ptL g.Poly)) = .tup [.agg (c_tRect (cvO s g).1), errK 55 (cvO s g).2] := by
  unfold cvO
  cases mayT g && mayS s <;> rfl
theorem dzone_Cover_l {fu : Nat} {s : Int} {g : tRegion} {r : tRect × Er} (h : dzone_Cover fu s g = some r) : PCall Tryz.prog 45 [.int .i64 s, .agg (c_tRegion g)] (· = .tup [.agg (c_tRect r.1), .err 55 r.2]) := by
  unfold dzone_Cover at h
  split at h
  · rename_i hl
    cases h
    have := zcover_c (s := s) (a := g.Rect.X1) (b := g.Rect.Y1) (c := g.Rect.X2) (d := g.Rect.Y2) (l := ptL g.Poly) (m := mayT g) (q := mayS s) (by rw [len_ptL]; exact hl) rfl rfl
    rw [rows_ptL, cvO_av] at this
    exact pcall_err this
  · cases h
def dzone_Safe (fu : Nat) (g : tRegion) (b : tRect) (v : tPoint) : Option Bool := if g.Poly.length ≤ maxLen then some (safT g b v) else none
theorem dzone_Safe_l {fu : Nat} {g : tRegion} {b : tRect} {v : tPoint} {r : Bool} (h : dzone_Safe fu g b v = some r) : PCall Tryz.prog 50 [.agg (c_tRegion g), .agg (c_tRect b), .agg (c_tPoint v)] (· = .bool r) := by
  unfold dzone_Safe at h
  split at h
  · rename_i hl
    cases h
    have := safe_c (a := g.Rect.X1) (b := g.Rect.Y1) (c := g.Rect.X2) (d := g.Rect.Y2) (A := b.X1) (B := b.Y1) (C := b.X2) (D := b.Y2) (l := ptL g.Poly) (v := (v.X, v.Y)) (by rw [len_ptL]; exact hl) rfl rfl rfl
    rw [rows_ptL] at this
    exact this
  · cases h
def dref15_Box (fu : Nat) (g : tRegion) : Option tRect := if g.Poly.length ≤ maxLen ∧ mayT g = true then some (bxT g) else none
theorem dref15_Box_l {fu : Nat} {g : tRegion} {r : tRect} (h : dref15_Box fu g = some r) : PCall Tryz.prog 14 [.agg (c_tRegion g)] (· = .agg (c_tRect r)) := by
  unfold dref15_Box at h
  split at h
  · rename_i hl
    cases h
    have := @rboxG_c g.Rect.X1 g.Rect.Y1 g.Rect.X2 g.Rect.Y2 (ptL g.Poly) (by rw [len_ptL]; exact hl.1) hl.2
    rw [rows_ptL] at this
    exact this
  · cases h
end Go.Proofs.YtbkomicjhfldmaaGreatDoor
namespace Go.Proofs.YtbkomicjhfldmaaGreatDoor
open Go.Pv
set_option maxRecDepth 100000
set_option maxHeartbeats 4000000
set_option linter.unusedSimpArgs false
set_option linter.unusedVariables false
set_option linter.unusedSectionVars false
def dmorton_may (fu : Nat) (s1 : Int) : Option Bool :=
  bif (decide (s1 ≥ 24)) then some (decide (s1 ≤ 31)) else some false
section
attribute [local irreducible] awp aops DP PCall ACall Decidable.decide
theorem dmorton_may_l {fu : Nat} {s1 : Int} {r : Bool} (h : dmorton_may fu s1 = some r) : PCall Tryz.prog 74 [.int .i64 s1] (· = .bool r) := by
 rw [dmorton_may] at h
 refine pB_ Tryz.func74 ?_
 refine aSR (rv rfl rfl (rn (aSR (rg 3 rfl (gT2 rfl rfl rfl rfl rfl h (fun h_1 => ?_) fun h_1 => ?_)))))
 ·clear h
  exact rg 4 rfl (rn (aT (si h_1 ▸ rF)))
 clear h
 exact rg 3 rfl (rn (aT (si h_1 ▸ rF)))
def dmorton_Side (fu : Nat) (s1 : Int) : Option Int :=
  (dmorton_may fu s1).bind fun x1 => bif (!x1) then some 0 else ((shrO .i64 2147483648 s1).bind fun q1 => some (W (q1 + 1)))
theorem dmorton_Side_l {fu : Nat} {s1 : Int} {r : Int} (h : dmorton_Side fu s1 = some r) : PCall Tryz.prog 42 [.int .i64 s1] (· = .int .i64 r) := by
 rw [dmorton_Side] at h
 refine pB_ Tryz.func42 ?_
 refine aSR (rv rfl rfl (rn (aS (aSR (rv rfl rfl (bx h fun x1 hx1 h_1 => rc1 rfl rfl rfl (dmorton_may_l hx1) (rv rfl rfl (rn (cS2 rfl h_1 (fun h_2 => ?_) fun h_2 => ?_)))))))))
 ·clear h h_1
  exact aSR (rv rfl rfl (rn (aT (si h_2 ▸ rF))))
 clear h h_1
 exact aK (aSR (rv rfl rfl (bx h_2 fun q1 hx2 h_3 => rV rfl (va_shr rfl rfl hx2) (rg 2 rfl (rn (aT (si h_3 ▸ rF)))))))
end
structure tSub where
  Id : Int
  Version : Int
  Region : tRegion
  Filter : Str
  Cover : tRect
def c_tSub (x : tSub) : List AV := [.int .i64 x.Id, .int .i64 x.Version, .int .i64 x.Region.Rect.X1, .int .i64 x.Region.Rect.Y1, .int .i64 x.Region.Rect.X2, .int .i64 x.Region.Rect.Y2, .sl (x.Region.Poly.map c_tPoint), .str (sB x.Filter), .int .i64 x.Cover.X1, .int .i64 x.Cover.Y1, .int .i64 x.Cover.X2, .int .i64 x.Cover.Y2]
structure ttablesub where
  Sub : tSub
  F : tFilter
def c_ttablesub (x : ttablesub) : List AV := [.int .i64 x.Sub.Id, .int .i64 x.Sub.Version, .int .i64 x.Sub.Region.Rect.X1, .int .i64 x.Sub.Region.Rect.Y1, .int .i64 x.Sub.Region.Rect.X2, .int .i64 x.Sub.Region.Rect.Y2, .sl (x.Sub.Region.Poly.map c_tPoint), .str (sB x.Sub.Filter), .int .i64 x.Sub.Cover.X1, .int .i64 x.Sub.Cover.Y1, .int .i64 x.Sub.Cover.X2, .int .i64 x.Sub.Cover.Y2, .int .i64 x.F.Kind, .str (sB x.F.Name), .str (sB x.F.Op), .sl (x.F.Vals.map c_tAttr), .sl (cs_tFilter x.F.L)]
structure tEvent where
  Pub : Int
  Seq : Int
  At : tPoint
  Attrs : List tAttr
structure ttableTable where
  Shift : Int
  Most : Int
  L : List (Int × ttablesub)
  Last : List (Int × Int)
def dtable_Table_Drop (fu : Nat) (t1 : ttableTable) (id1 : Int) : Option (tSub × Er × ttableTable) :=
  (mgo t1.L id1 (ttablesub.mk (tSub.mk 0 0 (tRegion.mk (tRect.mk 0 0 0 0) []) [] (tRect.mk 0 0 0 0)) (tFilter.mk 0 [] [] [] []))).bind fun is1 => (some ((mg t1.L id1).isSome)).bind fun is2 => bif (!is2) then some ((tSub.mk 0 0 (tRegion.mk (tRect.mk 0 0 0 0) []) [] (tRect.mk 0 0 0 0)), (some 9), t1) else ((mdo t1.L id1).bind fun m1 => (mpo t1.Last id1 (W (is1.Sub.Version + 1))).bind fun m2 => some ((tSub.mk is1.Sub.Id (W (is1.Sub.Version + 1)) is1.Sub.Region is1.Sub.Filter is1.Sub.Cover), none, (ttableTable.mk t1.Shift t1.Most m1 m2)))
section
attribute [local irreducible] awp aops DP PCall ACall Decidable.decide
theorem dtable_Table_Drop_l {fu : Nat} {t1 : ttableTable} {id1 : Int} {r : tSub × Er × ttableTable} (h : dtable_Table_Drop fu t1 id1 = some r) : ACall Tryz.prog 15 3 [.ptr 0 0, .int .i64 id1] [(0, 0, .int .i64 t1.Shift), (0, 1, .int .i64 t1.Most), (0, 2, .own 1), (0, 3, .own 2)] [(1, mapK (kInt .i64) (fun x : ttablesub => .agg (c_ttablesub x)) t1.L), (2, mapK (kInt .i64) (fun x : Int => .int .i64 x) t1.Last)] (fun r_ H_ O_ n_ => r_ = .tup [.agg [.int .i64 r.1.Id, .int .i64 r.1.Version, .int .i64 r.1.Region.Rect.X1, .int .i64 r.1.Region.Rect.Y1, .int .i64 r.1.Region.Rect.X2, .int .i64 r.1.Region.Rect.Y2, .sl (r.1.Region.Poly.map c_tPoint), .str (sB r.1.Filter), .int .i64 r.1.Cover.X1, .int .i64 r.1.Cover.Y1, .int .i64 r.1.Cover.X2, .int .i64 r.1.Cover.Y2], .err 55 r.2.1] ∧ H_ = [(0, 0, .int .i64 r.2.2.Shift), (0, 1, .int .i64 r.2.2.Most), (0, 2, .own 3), (0, 3, .own 4)] ∧ O_ = [(3, mapK (kInt .i64) (fun x : ttablesub => .agg (c_ttablesub x)) r.2.2.L), (4, mapK (kInt .i64) (fun x : Int => .int .i64 x) r.2.2.Last)] ∧ n_ = 5) := by
 rw [dtable_Table_Drop] at h
 refine aB_ Tryz.func15 ?_
 refine awp_conv (fun _ _ _ _ _ hi => map_again (κ := (kInt .i64)) (c := (fun x : ttablesub => .agg (c_ttablesub x))) 0 2 1 rfl rfl hi) (awp_conv (fun _ _ _ _ _ hi => map_again (κ := (kInt .i64)) (c := (fun x : Int => .int .i64 x)) 0 3 2 rfl rfl hi) (aSR (ra rfl rfl rfl (rv rfl rfl (rn (aSR (rg 5 rfl (bx h fun is1 hx1 h_1 => rV rfl (va_mgetokN (κ := (kInt .i64)) (c := (fun x : ttablesub => .agg (c_ttablesub x))) (b := t1.L) (kk := id1) (z := (ttablesub.mk (tSub.mk 0 0 (tRegion.mk (tRect.mk 0 0 0 0) []) [] (tRect.mk 0 0 0 0)) (tFilter.mk 0 [] [] [] []))) rfl rfl rfl rfl rfl rfl (by first | exact .inl (.inl rfl) | exact .inr ⟨_, _, rfl, rfl, by repeat (first | exact trivial | refine ⟨by first | exact .inl rfl | exact .inr (.inl ⟨rfl, rfl⟩) | exact .inr (.inr ⟨rfl, _, rfl⟩), ?_⟩)⟩) rfl rfl rfl hx1) ?_))))))))
 refine rg 3 rfl (ra rfl rfl rfl (rs rfl rfl rfl rfl rfl rfl rfl (rv rfl rfl ?_)))
 obtain ⟨is2, hx2, h_2⟩ := bs h_1
 refine rt (eb' hx2) (rn (aS (aSR (rg 2 rfl (rn (cS2 rfl h_2 (fun h_3 => ?_) fun h_3 => ?_))))))
 ·clear h h_1 h_2
  refine aSR (rg 2 rfl (rs rfl rfl rfl rfl rfl rfl rfl (rv rfl rfl (rn (awp_conv (fun _ _ _ _ _ hi => err_slot 55 5 (some 9) rfl hi) (aT ?_))))))
  obtain rfl := si h_3
  refine rW ?_
  exact rA [0,1,2,3,4]
 clear h h_1 h_2
 refine aK (aSR (rg 5 rfl (bx h_3 fun m1 hx3 h_4 => rmdel (κ := (kInt .i64)) (c := (fun x : ttablesub => .agg (c_ttablesub x))) (b := t1.L) (kk := id1) rfl rfl rfl rfl rfl rfl rfl rfl rfl (rk (congrArg (mapK (kInt .i64) (fun x : ttablesub => .agg (c_ttablesub x))) (mdob hx3)) (rn (aSR (rg 6 rfl (rs rfl rfl rfl rfl rfl rfl rfl (rn (aS (dP_ 8 Tryz.mix (dv rfl rfl (fun _ => rfl) (dv rfl rfl (fun _ => rfl) (dv rfl rfl (fun _ => rfl) (dv rfl rfl (fun _ => rfl) (dv rfl rfl (fun _ => rfl) (dv rfl rfl (fun _ => rfl) (dv rfl rfl (fun _ => rfl) (dv rfl rfl (fun _ => rfl) (dn (bx h_4 fun m2 hx4 h_5 => rmput (κ := (kInt .i64)) (c := (fun x : Int => .int .i64 x)) (b := t1.Last) (kk := id1) (z := (W (is1.Sub.Version + 1))) rfl rfl rfl rfl rfl rfl rfl rfl rfl (rk (congrArg (mapK (kInt .i64) (fun x : Int => .int .i64 x)) (mpob hx4)) (rn (aSR (rg 2 rfl (rs rfl rfl rfl rfl rfl rfl rfl (rv rfl rfl (rn (awp_conv (fun _ _ _ _ _ hi => err_slot 55 5 none rfl hi) (aT ?_))))))))))))))))))))))))))))))
 obtain rfl := si h_5
 refine rW ?_
 exact rA [0,1,2,3,4]
def dtable_New (fu : Nat) (shift1 : Int) (most1 : Int) : Option ((Option ttableTable) × Er) :=
  ((dmorton_Side fu shift1).bind fun x2 => bif (x2 == 0) then some true else (bif (decide (most1 < 1)) then some true else some (decide (most1 > 1000))) : Option Bool).bind fun (x1 : Bool) => (bif x1 then some (none, (some 1)) else some ((some (ttableTable.mk shift1 most1 [] [])), none))
theorem dtable_New_l {fu : Nat} {shift1 : Int} {most1 : Int} {r : (Option ttableTable) × Er} (h : dtable_New fu shift1 most1 = some r) : ACall Tryz.prog 9 0 [.int .i64 shift1, .int .i64 most1] [] [] (fun r_ H_ O_ n_ => r_ = .tup [oP r.1 0, .err 55 r.2] ∧ H_ = oL r.1 (fun q => [(0, 0, .int .i64 q.Shift), (0, 1, .int .i64 q.Most), (0, 2, .own 1), (0, 3, .own 2)]) ∧ O_ = oL r.1 (fun q => [(1, mapK (kInt .i64) (fun x : ttablesub => .agg (c_ttablesub x)) q.L), (2, mapK (kInt .i64) (fun x : Int => .int .i64 x) q.Last)]) ∧ n_ = oN r.1 0 3) := by
 rw [dtable_New] at h
 refine aB_ Tryz.func9 ?_
 refine aSR (rg 2 rfl (rn (aS (aS (bx h fun o1 ho2 h_1 => awp_cut1 (fun x => x = o1) (fun (x1 : Bool) => ⟨[(0, .int .i64 shift1), (1, .int .i64 most1), (16, .bool x1)], [], [], 0⟩) ?_ ?_)))))
 ·clear h
  refine aR (rv rfl rfl (bx ho2 fun x2 hx3 ho2_1 => rc1 rfl rfl rfl (dmorton_Side_l hx3) (rg 2 rfl (gF2 rfl rfl rfl rfl rfl ho2_1 (fun ho2_2 => ?_) fun ho2_2 => ?_))))
  ·clear ho2 ho2_1
   refine rg 4 rfl (gF2 rfl rfl rfl rfl rfl ho2_2 (fun ho2_3 => ?_) fun ho2_3 => ?_)
   ·clear ho2_2
    exact rg 3 rfl (rn (si ho2_3 ▸ cN []))
   clear ho2_2
   exact rg 2 rfl (rn (si ho2_3 ▸ cN []))
  clear ho2 ho2_1
  exact rg 6 rfl (rn (si ho2_2 ▸ cN []))
 clear h
 rintro x1 rfl
 refine ch (cS2 rfl h_1 (fun h_2 => ?_) fun h_2 => ?_)
 ·clear h_1
  refine aSR (rg 3 rfl (rn (awp_conv (fun _ _ _ _ _ hi => err_slot 55 5 (some 1) rfl hi) (aT ?_))))
  obtain rfl := si h_2
  refine rW ?_
  exact rA []
 clear h_1
 refine aK (aSR (rg 2 rfl (rN rfl (na_mmap (kInt .i64) (fun x : ttablesub => .agg (c_ttablesub x))) (rN rfl (na_mmap (kInt .i64) (fun x : Int => .int .i64 x)) (rv rfl rfl (rb rfl rfl (rg 2 rfl (rn (awp_conv (fun _ _ _ _ _ hi => err_slot 55 5 none rfl hi) (aT ?_))))))))))
 obtain rfl := si h_2
 refine rW ?_
 exact rA [2,0,1]
end
def dslices_Clone_Point (fu : Nat) (b : (List tPoint)) : Option (List tPoint) := ap [] b
section
attribute [local irreducible] awp aops DP PCall ACall Decidable.decide
theorem dslices_Clone_Point_l {fu : Nat} {b r : (List tPoint)} (h : dslices_Clone_Point fu b = some r) : PCall Tryz.prog 82 [.sl (b.map c_tPoint)] (· = .sl (r.map c_tPoint)) := by
  rw [dslices_Clone_Point] at h
  have hx1 := h
  have hr : b = r := ap_is h
  refine pcall_body Tryz.func82 rfl (by kernel_rfl) (by rfl) ?_
  refine awp_seq ?_
  refine awp_region ?_
  refine rv rfl rfl ?_
  refine rn ?_
  refine then_normal ?_
  refine awp_seq ?_
  refine awp_seq ?_
  refine awp_region ?_
  refine rv rfl rfl ?_
  refine rnil rfl rfl rfl rfl (fun q hb => ?_)
  refine rn ?_
  refine then_normal ?_
  refine cs_ rfl (fun hc => ?_) (fun hc => ?_)
  · refine awp_seq ?_
    refine awp_region ?_
    refine rv rfl rfl ?_
    refine rn ?_
    refine then_normal ?_
    refine awp_ret ?_
    repeat (first | refine then_ret ?_ | refine inBlock_ret ?_)
    refine rr rfl rfl ?_
    have h0 := hb hc
    rw [← hr]; exact congrArg AV.sl h0.symm
  · refine awp_skip ?_
    refine then_normal ?_
    refine awp_seq ?_
    refine awp_region ?_
    refine rbs false rfl rfl rfl rfl rfl rfl rfl rfl rfl rfl ?_
    refine rv rfl rfl ?_
    refine rap false (xs := ([] : (List tPoint)).map c_tPoint) (ys := b.map c_tPoint) rfl rfl rfl rfl rfl rfl rfl (.own rfl rfl) (.sl rfl rfl rfl) (wM (fun _ => by rfl) _) (oM (fun _ => by rfl) _) (apB c_tPoint rfl hx1) rfl ?_
    refine rk (congrArg (Kind.row _) (apM c_tPoint hx1)) ?_
    refine rv rfl rfl ?_
    refine rn ?_
    refine then_normal ?_
    refine awp_ret ?_
    repeat (first | refine then_ret ?_ | refine inBlock_ret ?_)
    exact rr rfl rfl rfl
end
def dtable_copied (fu : Nat) (s1 : tSub) : Option tSub :=
  (dslices_Clone_Point fu s1.Region.Poly).bind fun x1 => some (tSub.mk s1.Id s1.Version (tRegion.mk s1.Region.Rect x1) s1.Filter s1.Cover)
section
attribute [local irreducible] awp aops DP PCall ACall Decidable.decide
theorem dtable_copied_l {fu : Nat} {s1 : tSub} {r : tSub} (h : dtable_copied fu s1 = some r) : PCall Tryz.prog 46 [.agg [.int .i64 s1.Id, .int .i64 s1.Version, .int .i64 s1.Region.Rect.X1, .int .i64 s1.Region.Rect.Y1, .int .i64 s1.Region.Rect.X2, .int .i64 s1.Region.Rect.Y2, .sl (s1.Region.Poly.map c_tPoint), .str (sB s1.Filter), .int .i64 s1.Cover.X1, .int .i64 s1.Cover.Y1, .int .i64 s1.Cover.X2, .int .i64 s1.Cover.Y2]] (· = .agg [.int .i64 r.Id, .int .i64 r.Version, .int .i64 r.Region.Rect.X1, .int .i64 r.Region.Rect.Y1, .int .i64 r.Region.Rect.X2, .int .i64 r.Region.Rect.Y2, .sl (r.Region.Poly.map c_tPoint), .str (sB r.Filter), .int .i64 r.Cover.X1, .int .i64 r.Cover.Y1, .int .i64 r.Cover.X2, .int .i64 r.Cover.Y2]) := by
 rw [dtable_copied] at h
 refine pB_ Tryz.func46 ?_
 exact aSR (rb rfl rfl (ra rfl rfl rfl (rn (aSR (rg 3 rfl (bx h fun x1 hx1 h_1 => rc1 rfl rfl rfl (dslices_Clone_Point_l hx1) (rg 2 rfl (rs rfl rfl rfl rfl rfl rfl rfl (rn (aSR (rv rfl rfl (rs rfl rfl rfl rfl rfl rfl rfl (rn (aT (si h_1 ▸ rF)))))))))))))))
end
end Go.Proofs.YtbkomicjhfldmaaGreatDoor
namespace Go.Pv
open Go.RowKit (Below)
open Go.MapKept (Stamped)
set_option linter.unusedSectionVars false
set_option linter.unusedVariables false
def KeysSorted (P : Program) (fK fS : FuncId) : Prop :=
  goes P fK = true ∧ goes P fS = true ∧ ∀ (w : World) (b : Nat) (es : Array MapEntry) (clock : Nat) (zs : List Int), w.heap[b]? = some (.map es clock) → Stamped es clock →
    es.toList.map (·.key) = zs.map (Value.int .i64) → (∀ z ∈ zs, (Lit.int .i64 z).wf = true) → zs.length ≤ 68719476736 →
    Calls P fK #[.map (some b)] w fun e w1 => ∃ fv, e = .returned fv ∧ Below w.heap.size w w1 ∧
      Calls P fS #[fv] w1 fun e w2 => ∃ (v : Value) (ss : List Int) (t : TypeId), e = .returned v ∧ ss.Perm zs ∧ w2.ownsRow w1.heap.size t 1 v ss.length ((ss.mergeSort fun x y => decide (x ≤ y)).map (Value.int .i64)) ∧ Below w1.heap.size w1 w2
def ksd {V : Type} (l : List (Int × V)) : Option (List Int) := if (l.all fun p => (Lit.int .i64 p.1).wf) = true ∧ l.length ≤ 68719476736 then some ((l.map (·.1)).mergeSort fun x y => decide (x ≤ y)) else none
theorem sort_perm {l l' : List Int} (h : l.Perm l') : l.mergeSort (fun x y => decide (x ≤ y)) = l'.mergeSort fun x y => decide (x ≤ y) := by
  have tr : ∀ a b c : Int, decide (a ≤ b) = true → decide (b ≤ c) = true → decide (a ≤ c) = true := fun a b c h1 h2 => by simp only [decide_eq_true_eq] at *; exact Int.le_trans h1 h2
  have to : ∀ a b : Int, (decide (a ≤ b) || decide (b ≤ a)) = true := fun a b => by simp only [Bool.or_eq_true, decide_eq_true_eq]; exact Int.le_total a b
  refine List.Perm.eq_of_pairwise (le := fun a b => decide (a ≤ b) = true) (fun a b _ _ h1 h2 => ?_) (List.pairwise_mergeSort tr to l) (List.pairwise_mergeSort tr to l') (((List.mergeSort_perm l _).trans h).trans (List.mergeSort_perm l' _).symm)
  simp only [decide_eq_true_eq] at h1 h2
  exact Int.le_antisymm h1 h2
theorem repRows_ints {w : World} {top : Nat → Nat} {gb : Nat} : ∀ (zs : List Int) (o : Nat), (∀ j (h : j < zs.length), o + j < top gb ∧ w.cell? ⟨gb, o + j, none⟩ = some (.int .i64 zs[j])) → RepRows w top gb o (zs.map (cI .i64))
  | [], _, _ => trivial
  | z :: zs, o, h => by
    refine ⟨⟨⟨(h 0 (by simp)).1, _, (h 0 (by simp)).2, rfl⟩, trivial⟩, ?_⟩
    refine repRows_ints zs (o + 1) fun j hj => ?_
    have := h (j + 1) (by simpa using hj)
    rw [show o + (j + 1) = o + 1 + j by omega] at this
    simpa using this
section
variable {V : Type} {c : V → AV} {P : Program} [Tab P] {N n0 : Nat} {Q : Post} {ops : Array Oper} {rest : List Oper} {σ : List (Nat × AV)} {H : List (Nat × Nat × AV)} {O : List (Nat × Kind)} {n k : Nat}
theorem rKS {d1 d2 : Nat} {f1 x : Operand} {ats1 ats2 : Array TypeId} {ty1 ty2 : TypeId} {pos1 pos2 : String} {af1 af2 : Array Edge} {fK fS : FuncId} {l : List (Int × V)} {y : List Int}
    (hd1 : Nat.blt d1 N = true) (hd2 : Nat.blt d2 N = true) (h1 : ev σ f1 = .fn fK []) (hx : ev σ x = .own k) (hO : lkO O k = some (mapK (kInt .i64) c l)) (hks : KeysSorted P fK fS) (hy : ksd l = some y)
    (kk : aops P N n0 ops rest Q ⟨(d2, .sl (y.map (cI .i64))) :: (d1, .any) :: σ, H, O, n⟩) :
    aops P N n0 ops (⟨some d1, .call ⟨.value f1, #[x], ats1⟩, ty1, pos1, af1, none⟩ :: ⟨some d2, .call ⟨.value (.func fS), #[.tmp d1], ats2⟩, ty2, pos2, af2, none⟩ :: rest) Q ⟨σ, H, O, n⟩ := by
  intro w0 g0 a w g hi
  have hfr := rep_ev hi.slots f1
  rw [show ev (St.mk σ H O n).σ f1 = _ from h1] at hfr
  obtain ⟨cs, hfe, hcs⟩ := hfr
  obtain rfl : cs = [] := hcs
  have r1 := rep_ev hi.slots x
  rw [show ev (St.mk σ H O n).σ x = _ from hx] at r1
  obtain ⟨b, es, clock, q1, q2, q3, q4, q5, m, q6, q7⟩ := mapK_holds.1 (hi.owns.at hO)
  have e1 : g.own k = some (a.eval x) := r1
  rw [q1] at e1
  have e1 := (Option.some.inj e1).symm
  unfold ksd at hy
  split at hy
  · rename_i hc
    obtain rfl := Option.some.inj hy
    obtain ⟨hwf, hlen⟩ := hc
    have hmk := mr_keys q7
    obtain ⟨zs, hz1, hz2⟩ : ∃ zs : List Int, es.toList.map (·.key) = zs.map (Value.int .i64) ∧ zs.Perm (l.map (·.1)) := by
      have hp : (es.toList.map (·.key)).Perm ((l.map (·.1)).map (Value.int .i64)) := by
        have := (q6.symm.map (·.key))
        rw [hmk] at this
        simpa [List.map_map, Function.comp_def, kInt] using this
      refine ⟨es.toList.map fun e => match e.key with | .int _ z => z | _ => 0, ?_, ?_⟩
      · rw [List.map_map]
        refine List.map_congr_left fun e he => ?_
        obtain ⟨p, _, hp2, _⟩ := mr_mem q7 (q6.mem_iff.2 he)
        simp [hp2, kInt]
      · have := hp.map (fun v : Value => match v with | .int _ z => z | _ => (0 : Int))
        simpa [List.map_map, Function.comp_def] using this
    have hzw : ∀ z ∈ zs, (Lit.int .i64 z).wf = true := fun z hz => by
      have := hz2.mem_iff.1 hz
      obtain ⟨p, hp, rfl⟩ := List.mem_map.1 this
      exact List.all_eq_true.1 hwf p hp
    have hzl : zs.length ≤ 68719476736 := by rw [hz2.length_eq, List.length_map]; exact hlen
    have hcall := hks.2.2 w b es clock zs q4 q5 hz1 hzw hzl
    refine wpList_go rfl ?_
    have hrun : (execOp a.eval ⟨some d1, .call ⟨.value f1, #[x], ats1⟩, ty1, pos1, af1, none⟩).run P w = .ok (.enter fK #[.map (some b)]) w := by
      simp only [execOp, resolve, hfe, Deferred.ofValue, Sem.run_bind, Sem.run_pure, Result.andThen_ok, invoke]
      simp only [List.map_toArray, List.map_cons, List.map_nil, e1, Array.append_empty, Array.empty_append]
      exact run_callFunc hks.1 _ w
    simp only [Oper.wp, hrun, Oper.upon]
    refine hcall.mono ?_
    rintro e w1 ⟨fv, rfl, hb1, hcall2⟩
    have hp1 : PF w g.top w1 g.top := ⟨hb1, fun _ _ => rfl, fun b hb => hi.wf.topNew b (Nat.le_trans hb1.size hb)⟩
    obtain ⟨hi1, _⟩ := hi.called hp1
    have hi1' := hi1.put (d := some d1) (v := .any) (val := fv) trivial hd1
    have hlt1 : d1 < a.tmps.size := by rw [hi.size]; simpa using hd1
    have hev : (a.put (some d1) fv).eval (.tmp d1) = fv := by
      simp [Act.eval, Act.put, hlt1]
    refine wpList_go rfl ?_
    have hrun2 : (execOp (a.put (some d1) fv).eval ⟨some d2, .call ⟨.value (.func fS), #[.tmp d1], ats2⟩, ty2, pos2, af2, none⟩).run P w1 = .ok (.enter fS #[fv]) w1 := by
      simp only [execOp, resolve, Act.eval, Deferred.ofValue, Sem.run_bind, Sem.run_pure, Result.andThen_ok, invoke]
      have hev' : (a.put (some d1) fv).tmps.getD d1 undef = fv := hev
      simp only [List.map_toArray, List.map_cons, List.map_nil, Act.eval, hev', Array.append_empty, Array.empty_append]
      exact run_callFunc hks.2.1 _ w1
    simp only [Oper.wp, hrun2, Oper.upon]
    refine hcall2.mono ?_
    rintro e w2 ⟨v, ss, t, rfl, hperm, hrow, hb2⟩
    have hsl : ss.length = l.length := by rw [hperm.length_eq, hz2.length_eq, List.length_map]
    have hso : (ss.mergeSort fun x y => decide (x ≤ y)) = (l.map (·.1)).mergeSort fun x y => decide (x ≤ y) := sort_perm (hperm.trans hz2)
    rw [hso] at hrow
    have hlm : ((l.map (·.1)).mergeSort fun x y => decide (x ≤ y)).length = ss.length := by simp [hsl]
    generalize ((l.map (·.1)).mergeSort fun x y => decide (x ≤ y)) = ys at hrow hlm kk
    obtain ⟨hl1, hrow⟩ := hrow
    rcases hrow with ⟨rfl, hn0⟩ | ⟨gb, cap, cur, rfl, hgb, hblk, hn, hcap, hcs, htk⟩
    · have hp2 : PF w1 g.top w2 g.top := ⟨hb2, fun _ _ => rfl, fun b hb => hp1.new b (Nat.le_trans hb2.size hb)⟩
      obtain ⟨hi2, _⟩ := hi1'.called hp2
      refine kk w0 g0 _ w2 _ (hi2.put (d := some d2) (v := .sl (ys.map (cI .i64))) ?_ hd2)
      have : ys = [] := List.eq_nil_of_length_eq_zero (by omega)
      subst this
      exact ⟨none, 0, rfl, Nat.le_refl _, fun _ => rfl, fun ad h => by cases h⟩
    · have hgl : gb < w2.heap.size := (Array.getElem?_eq_some_iff.1 hblk).1
      let top2 : Nat → Nat := fun b => if b = gb then ys.length else g.top b
      have hp2 : PF w1 g.top w2 top2 := ⟨hb2, fun b hb => by simp only [top2]; rw [if_neg (by omega)], fun b hb => by
        simp only [top2]; rw [if_neg (by omega)]; exact hp1.new b (Nat.le_trans hb2.size hb)⟩
      obtain ⟨hi2, _⟩ := hi1'.called hp2
      refine kk w0 g0 _ w2 _ (hi2.put (d := some d2) (v := .sl (ys.map (cI .i64))) ?_ hd2)
      refine ⟨some ⟨gb, 0, none⟩, cap, by rw [List.length_map, hlm], by rw [List.length_map, hlm]; exact hn, (fun h => by cases h), fun ad h => ?_⟩
      obtain rfl := Option.some.inj h
      refine ⟨fun _ => rfl, repRows_ints ys 0 fun j hj => ?_⟩
      refine ⟨by show 0 + j < top2 gb; simp only [top2, if_true]; omega, ?_⟩
      have hj2 : j < cur.size := by rw [hcs]; omega
      have h3 : (cur.toList.take (ss.length * 1))[j]? = (ys.map (Value.int .i64))[j]? := by rw [htk]
      rw [List.getElem?_take_of_lt (by omega)] at h3
      simp only [World.cell?, hblk, Nat.zero_add, Option.isSome_none, Bool.false_eq_true, if_false]
      rw [← Array.getElem?_toList, h3]
      simp [hj]
  · cases hy
end
end Go.Pv
