/- Contracts, printed by a program of this session's. -/
import Derived.Test.YtngeejjllgnpcaaS03z
namespace Go.Proofs.Ytngeejjllgnpcaa
open Go.Pv
set_option maxRecDepth 100000
set_option maxHeartbeats 4000000
set_option linter.unusedSimpArgs false
set_option linter.unusedVariables false
set_option linter.unusedSectionVars false

def zero4 (a b c d : Int) : Bool := a == 0 && (b == 0 && (c == 0 && (d == 0 && true)))
def mayG (a b c d : Int) (l : List Pt) : Bool := match l with
  | [] => mayR a b c d
  | _ :: _ => zero4 a b c d && simpB l
theorem mayG_0 {a b c d : Int} {l : List Pt} (h : (((rows l).length : Int) == 0) = true) : mayR a b c d = mayG a b c d l := by
  cases l with
  | nil => rfl
  | cons q t => simp [rows] at h; omega
theorem cons_of {l : List Pt} (h : (((rows l).length : Int) == 0) = false) : ∃ q t, l = q :: t := by
  cases l with
  | nil => simp [rows] at h
  | cons q t => exact ⟨q, t, rfl⟩
theorem mayG_1 {a b c d : Int} {l : List Pt} (h : (((rows l).length : Int) == 0) = false) : (zero4 a b c d && simpB l) = mayG a b c d l := by
  obtain ⟨q, t, rfl⟩ := cons_of h; rfl
theorem mayG_2 {a b c d : Int} {l : List Pt} (h : (((rows l).length : Int) == 0) = false) (hz : zero4 a b c d = false) : false = mayG a b c d l := by rw [← mayG_1 h, hz]; rfl
theorem mayG_3 {a b c d : Int} {l : List Pt} (h : (((rows l).length : Int) == 0) = false) (hz : zero4 a b c d = true) : simpB l = mayG a b c d l := by rw [← mayG_1 h, hz]; rfl
theorem mayG_4 {a b c d : Int} {l : List Pt} (h : (((rows l).length : Int) == 0) = false) (hz : simpB l = false) : false = mayG a b c d l := by rw [← mayG_1 h, hz, Bool.and_false]
theorem mayG_5 {a b c d : Int} {l : List Pt} (h : (((rows l).length : Int) == 0) = false) (hz : simpB l = true) : zero4 a b c d = mayG a b c d l := by rw [← mayG_1 h, hz, Bool.and_true]

section
attribute [local irreducible] awp aops DP PCall ACall Decidable.decide Nat.mod simpB mayP mayR mayG inE inR box addB holdsR
/-- `plover/region.May` -/
theorem mayG_c {a b c d : Int} {l : List Pt} (hl : l.length ≤ maxLen) : PCall Try.prog 31 [.agg [.int .i64 (a), .int .i64 (b), .int .i64 (c), .int .i64 (d), .sl (rows l)]] (· = .bool (mayG a b c d l)) := by
  refine pcall_body Try.func31 rfl (by kernel_rfl) (by rfl) ?_
  refine awp_seq ?_
  refine awp_region ?_
  refine rb rfl rfl (?_)
  refine rv rfl rfl (?_)
  refine rn ?_
  refine then_normal ?_
  refine awp_seq ?_
  refine awp_seq ?_
  refine awp_region ?_
  refine rv rfl rfl (?_)
  refine rv rfl rfl (?_)
  refine rv rfl rfl (?_)
  refine rv rfl rfl (?_)
  refine rn ?_
  refine then_normal ?_
  refine cs_ rfl (fun hc => ?_) (fun hc => ?_)
  · first
    | (cases hc; done)
    | (
      refine awp_seq ?_
      refine awp_region ?_
      refine rv rfl rfl (?_)
      refine rv rfl rfl (?_)
      refine rc1 rfl rfl rfl mayR_c (?_)
      refine rv rfl rfl (?_)
      refine rn ?_
      refine then_normal ?_
      refine awp_ret ?_
      repeat (first | refine then_ret ?_ | refine inBlock_ret ?_)
      refine rr rfl rfl ?_
      first | exact eb (mayG_0 (by assumption)) | exact eb (mayG_2 (by assumption) (by first | assumption | (simpa [zero4] using (by assumption)))) | exact eb (mayG_3 (by assumption) (by first | assumption | (simpa [zero4] using hg))) | exact eb (mayG_4 (by assumption) (by assumption)) | exact eb (mayG_5 (by assumption) (by assumption)) | trace_state)
  · first
    | (cases hc; done)
    | (
      refine awp_skip ?_
      refine then_normal ?_
      refine awp_seq ?_
      refine awp_region ?_
      refine rv rfl rfl (?_)
      refine rv rfl rfl (?_)
      refine rv rfl rfl (?_)
      refine rv rfl rfl (?_)
      refine rv rfl rfl (?_)
      (first | refine gy rfl rfl rfl (rv rfl rfl (?_)) | refine gn rfl rfl rfl rfl rfl ?_ | refine gu rfl rfl rfl rfl ?_ | refine gs rfl rfl rfl rfl rfl (fun hg => rv rfl rfl (?_)) (fun hg => ?_)) <;> (
      (first | refine gy rfl rfl rfl (rv rfl rfl (?_)) | refine gn rfl rfl rfl rfl rfl ?_ | refine gu rfl rfl rfl rfl ?_ | refine gs rfl rfl rfl rfl rfl (fun hg => rv rfl rfl (?_)) (fun hg => ?_)) <;> (
      (first | refine gy rfl rfl rfl (rc1 rfl rfl rfl (simple_c hl) (?_)) | refine gn rfl rfl rfl rfl rfl ?_ | refine gu rfl rfl rfl rfl ?_ | refine gs rfl rfl rfl rfl rfl (fun hg => rc1 rfl rfl rfl (simple_c hl) (?_)) (fun hg => ?_)) <;> (
      refine rv rfl rfl (?_)
      refine rv rfl rfl (?_)
      refine rn ?_
      refine then_normal ?_
      refine awp_ret ?_
      repeat (first | refine then_ret ?_ | refine inBlock_ret ?_)
      refine rr rfl rfl ?_
      first | exact eb (mayG_0 (by assumption)) | exact eb (mayG_2 (by assumption) (by first | assumption | (simpa [zero4] using (by assumption)))) | exact eb (mayG_3 (by assumption) (by first | assumption | (simpa [zero4] using hg))) | exact eb (mayG_4 (by assumption) (by assumption)) | exact eb (mayG_5 (by assumption) (by assumption)) | trace_state))))
end

section
attribute [local irreducible] awp aops DP PCall ACall Decidable.decide Nat.mod simpB mayP mayR mayG inE inR box addB holdsR
/-- `plover/ploverref15.Region` -/
theorem rmayG_c {a b c d : Int} {l : List Pt} (hl : l.length ≤ maxLen) : PCall Try.prog 29 [.agg [.int .i64 (a), .int .i64 (b), .int .i64 (c), .int .i64 (d), .sl (rows l)]] (· = .bool (mayG a b c d l)) := by
  refine pcall_body Try.func29 rfl (by kernel_rfl) (by rfl) ?_
  refine awp_seq ?_
  refine awp_region ?_
  refine rb rfl rfl (?_)
  refine rv rfl rfl (?_)
  refine rn ?_
  refine then_normal ?_
  refine awp_seq ?_
  refine awp_seq ?_
  refine awp_region ?_
  refine rv rfl rfl (?_)
  refine rv rfl rfl (?_)
  refine rv rfl rfl (?_)
  refine rv rfl rfl (?_)
  refine rn ?_
  refine then_normal ?_
  refine cs_ rfl (fun hc => ?_) (fun hc => ?_)
  · first
    | (cases hc; done)
    | (
      refine awp_seq ?_
      refine awp_region ?_
      refine rv rfl rfl (?_)
      refine rv rfl rfl (?_)
      refine rc1 rfl rfl rfl rRect_c (?_)
      refine rv rfl rfl (?_)
      refine rn ?_
      refine then_normal ?_
      refine awp_ret ?_
      repeat (first | refine then_ret ?_ | refine inBlock_ret ?_)
      refine rr rfl rfl ?_
      first | exact eb (mayG_0 (by assumption)) | exact eb (mayG_2 (by assumption) (by first | assumption | (simpa [zero4] using (by assumption)))) | exact eb (mayG_3 (by assumption) (by first | assumption | (simpa [zero4] using hg))) | exact eb (mayG_4 (by assumption) (by assumption)) | exact eb (mayG_5 (by assumption) (by assumption)) | trace_state)
  · first
    | (cases hc; done)
    | (
      refine awp_skip ?_
      refine then_normal ?_
      refine awp_seq ?_
      refine awp_region ?_
      refine rv rfl rfl (?_)
      refine rv rfl rfl (?_)
      refine rc1 rfl rfl rfl (rsimple_c hl) (?_)
      refine rv rfl rfl (?_)
      refine rn ?_
      refine then_normal ?_
      refine awp_seq ?_
      refine awp_region ?_
      refine rv rfl rfl (?_)
      refine rv rfl rfl (?_)
      (first | refine gy rfl rfl rfl (rv rfl rfl (?_)) | refine gn rfl rfl rfl rfl rfl ?_ | refine gu rfl rfl rfl rfl ?_ | refine gs rfl rfl rfl rfl rfl (fun hg => rv rfl rfl (?_)) (fun hg => ?_)) <;> (
      (first | refine gy rfl rfl rfl (rv rfl rfl (?_)) | refine gn rfl rfl rfl rfl rfl ?_ | refine gu rfl rfl rfl rfl ?_ | refine gs rfl rfl rfl rfl rfl (fun hg => rv rfl rfl (?_)) (fun hg => ?_)) <;> (
      (first | refine gy rfl rfl rfl (rv rfl rfl (?_)) | refine gn rfl rfl rfl rfl rfl ?_ | refine gu rfl rfl rfl rfl ?_ | refine gs rfl rfl rfl rfl rfl (fun hg => rv rfl rfl (?_)) (fun hg => ?_)) <;> (
      (first | refine gy rfl rfl rfl (rv rfl rfl (?_)) | refine gn rfl rfl rfl rfl rfl ?_ | refine gu rfl rfl rfl rfl ?_ | refine gs rfl rfl rfl rfl rfl (fun hg => rv rfl rfl (?_)) (fun hg => ?_)) <;> (
      refine rv rfl rfl (?_)
      refine rv rfl rfl (?_)
      refine rn ?_
      refine then_normal ?_
      refine awp_ret ?_
      repeat (first | refine then_ret ?_ | refine inBlock_ret ?_)
      refine rr rfl rfl ?_
      first | exact eb (mayG_0 (by assumption)) | exact eb (mayG_2 (by assumption) (by first | assumption | (simpa [zero4] using (by assumption)))) | exact eb (mayG_3 (by assumption) (by first | assumption | (simpa [zero4] using hg))) | exact eb (mayG_4 (by assumption) (by assumption)) | exact eb (mayG_5 (by assumption) (by assumption)) | trace_state)))))
end

def bxG (a b c d : Int) (l : List Pt) : Int × Int × Int × Int := match l with
  | [] => (a, b, c, d)
  | _ :: _ => box l l.length
def rcV (r : Int × Int × Int × Int) : AV := .agg [.int .i64 r.1, .int .i64 r.2.1, .int .i64 r.2.2.1, .int .i64 r.2.2.2]
def boxO (m : Bool) (r : Int × Int × Int × Int) : AV := match m with
  | true => .tup [.agg [.int .i64 r.1, .int .i64 r.2.1, .int .i64 r.2.2.1, .int .i64 r.2.2.2], .nilI]
  | false => .tup [.agg [.int .i64 0, .int .i64 0, .int .i64 0, .int .i64 0], .iface 35 (.int .i64 1)]
theorem mayG_cb {a b c d : Int} {l : List Pt} {m : Bool} (hl : l.length ≤ maxLen) (h : mayG a b c d l = m) : PCall Try.prog 31 [.agg [.int .i64 a, .int .i64 b, .int .i64 c, .int .i64 d, .sl (rows l)]] (· = .bool m) := h ▸ mayG_c hl
theorem rmayG_cb {a b c d : Int} {l : List Pt} {m : Bool} (hl : l.length ≤ maxLen) (h : mayG a b c d l = m) : PCall Try.prog 29 [.agg [.int .i64 a, .int .i64 b, .int .i64 c, .int .i64 d, .sl (rows l)]] (· = .bool m) := h ▸ rmayG_c hl
theorem mayG_simp {a b c d : Int} {q : Pt} {t : List Pt} (h : mayG a b c d (q :: t) = true) : zero4 a b c d = true ∧ Simp (q :: t) := by
  simp only [mayG, Bool.and_eq_true] at h; exact ⟨h.1, (simpB_iff _).1 h.2⟩
/-- rect.Of of a region's corners. -/
def ofO (l : List Pt) : AV := match l with
  | [] => .tup [.agg [.int .i64 0, .int .i64 0, .int .i64 0, .int .i64 0], .bool false]
  | _ :: _ => .tup [.agg [.int .i64 (box l l.length).1, .int .i64 (box l l.length).2.1, .int .i64 (box l l.length).2.2.1, .int .i64 (box l l.length).2.2.2], .bool true]
theorem of_cb {a b c d : Int} {l : List Pt} (hl : l.length ≤ maxLen) (h : mayG a b c d l = true) : PCall Try.prog 77 [.sl (rows l)] (· = ofO l) := by
  cases l with
  | nil => exact of_c (ps := []) hl
  | cons q t =>
    have hs := (mayG_simp h).2
    have := of_c hl
    unfold ofT at this
    have ha : allMay (q :: t) = true := List.all_eq_true.2 hs.may
    rw [ha] at this
    have hd : decide (((rows (q :: t)).length : Int) > 0) = true := by simp [rows]
    rw [hd] at this
    exact this
theorem rof_cb {q : Pt} {t : List Pt} {a b c d : Int} (hl : (q :: t).length ≤ maxLen) (h : mayG a b c d (q :: t) = true) : PCall Try.prog 25 [.sl (rows (q :: t))] (· = ofO (q :: t)) := rof_y hl (mayG_simp h).2

section
attribute [local irreducible] awp aops DP PCall ACall Decidable.decide Nat.mod simpB mayP mayR mayG inE inR box addB holdsR
/-- `plover/region.Box` -/
theorem boxG_c {a b c d : Int} {l : List Pt} {m : Bool} (hl : l.length ≤ maxLen) (hm : mayG a b c d l = m) : PCall Try.prog 30 [.agg [.int .i64 (a), .int .i64 (b), .int .i64 (c), .int .i64 (d), .sl (rows l)]] (· = boxO m (bxG a b c d l)) := by
  refine pcall_body Try.func30 rfl (by kernel_rfl) (by rfl) ?_
  refine awp_seq ?_
  (rcases m with _ | _ <;> rcases l with _ | ⟨q, t⟩) <;> (
  refine awp_region ?_
  refine rb rfl rfl (?_)
  refine ra rfl rfl rfl (?_)
  refine rv rfl rfl (?_)
  refine rn ?_
  refine then_normal ?_
  refine awp_seq ?_
  refine awp_seq ?_
  refine awp_region ?_
  refine rv rfl rfl (?_)
  refine rc1 rfl rfl rfl (mayG_cb hl hm) (?_)
  refine rv rfl rfl (?_)
  refine rn ?_
  refine then_normal ?_
  refine cs_ rfl (fun hc => ?_) (fun hc => ?_)
  · first
    | (cases hc; done)
    | (
      refine awp_seq ?_
      refine awp_region ?_
      refine rv rfl rfl (?_)
      refine rv rfl rfl (?_)
      refine rs rfl rfl rfl rfl rfl rfl rfl (?_)
      refine rv rfl rfl (?_)
      refine rn ?_
      refine then_normal ?_
      refine awp_ret ?_
      repeat (first | refine then_ret ?_ | refine inBlock_ret ?_)
      refine rr rfl rfl ?_
      first | rfl | (cases hc; done) | trace_state)
  · first
    | (cases hc; done)
    | (
      refine awp_skip ?_
      refine then_normal ?_
      refine awp_seq ?_
      refine awp_seq ?_
      refine awp_region ?_
      refine rv rfl rfl (?_)
      refine rv rfl rfl (?_)
      refine rc1 rfl rfl rfl (of_cb hl hm) (?_)
      refine rv rfl rfl (?_)
      refine rv rfl rfl (?_)
      refine rv rfl rfl (?_)
      refine ra rfl rfl rfl (?_)
      refine rs rfl rfl rfl rfl rfl rfl rfl (?_)
      refine rv rfl rfl (?_)
      refine rn ?_
      refine then_normal ?_
      refine awp_seq ?_
      refine awp_region ?_
      refine rv rfl rfl (?_)
      refine rn ?_
      refine then_normal ?_
      refine cs_ rfl (fun hc => ?_) (fun hc => ?_)
      · first
        | (cases hc; done)
        | (
          refine awp_seq ?_
          refine awp_region ?_
          refine rv rfl rfl (?_)
          refine rs rfl rfl rfl rfl rfl rfl rfl (?_)
          refine rv rfl rfl (?_)
          refine rn ?_
          refine then_normal ?_
          refine awp_ret ?_
          repeat (first | refine then_ret ?_ | refine inBlock_ret ?_)
          refine rr rfl rfl ?_
          first | rfl | (cases hc; done) | trace_state)
      · first
        | (cases hc; done)
        | (
          refine awp_skip ?_
          refine then_normal ?_
          refine awp_seq ?_
          refine awp_region ?_
          refine rv rfl rfl (?_)
          refine rv rfl rfl (?_)
          refine rs rfl rfl rfl rfl rfl rfl rfl (?_)
          refine rv rfl rfl (?_)
          refine rn ?_
          refine then_normal ?_
          refine awp_ret ?_
          repeat (first | refine then_ret ?_ | refine inBlock_ret ?_)
          refine rr rfl rfl ?_
          first | rfl | (cases hc; done) | trace_state)))
end

def inG (a b c d : Int) (l : List Pt) (p : Pt) : Bool := mayG a b c d l && my p && match l with
  | [] => inR a b c d p.1 p.2
  | _ :: _ => inE l p
theorem inG_1 {a b c d : Int} {l : List Pt} {p : Pt} (h : mayG a b c d l = false) : false = inG a b c d l p := by unfold inG; rw [h]; rfl
theorem inG_2 {a b c d : Int} {l : List Pt} {p : Pt} (h : mayP p.1 p.2 = false) : false = inG a b c d l p := by unfold inG my; rw [h, Bool.and_false]; rfl
theorem inG_3 {a b c d : Int} {q : Pt} {t : List Pt} {p : Pt} (h : mayG a b c d (q :: t) = true) (hp : mayP p.1 p.2 = true) : inE (q :: t) p = inG a b c d (q :: t) p := by unfold inG my; rw [h, hp]; rfl
theorem inG_4 {a b c d : Int} {p : Pt} (h : mayG a b c d [] = true) (hp : mayP p.1 p.2 = true) : inR a b c d p.1 p.2 = inG a b c d [] p := by unfold inG my; rw [h, hp]; rfl
theorem rin_cb {a b c d : Int} {l : List Pt} {p : Pt} (hl : l.length ≤ maxLen) (h : mayG a b c d l = true) (hp : mayP p.1 p.2 = true) (hn : l ≠ []) : PCall Try.prog 20 [.sl (rows l), .agg [.int .i64 p.1, .int .i64 p.2]] (· = .bool (inE l p)) := by
  cases l with
  | nil => exact absurd rfl hn
  | cons q t => exact rinside_c hl (mayG_simp h).2.may hp
theorem nots {b : Bool} (h : (!b) = true) : b = false := by simpa using h
theorem notf {b : Bool} (h : (!b) = false) : b = true := by simpa using h

section
attribute [local irreducible] awp aops DP PCall ACall Decidable.decide Nat.mod simpB mayP mayR mayG inE inR box addB holdsR
/-- `plover/region.In` -/
theorem inG_c {a b c d : Int} {l : List Pt} {p : Pt} (hl : l.length ≤ maxLen) : PCall Try.prog 34 [.agg [.int .i64 (a), .int .i64 (b), .int .i64 (c), .int .i64 (d), .sl (rows l)], .agg [.int .i64 (p).1, .int .i64 (p).2]] (· = .bool (inG a b c d l p)) := by
  refine pcall_body Try.func34 rfl (by kernel_rfl) (by rfl) ?_
  refine awp_seq ?_
  (rcases l with _ | ⟨q, t⟩) <;> (
  refine awp_region ?_
  refine rb rfl rfl (?_)
  refine rb rfl rfl (?_)
  refine rv rfl rfl (?_)
  refine rn ?_
  refine then_normal ?_
  refine awp_seq ?_
  refine awp_block ?_
  refine awp_seq ?_
  refine awp_region ?_
  refine rv rfl rfl (?_)
  refine rc1 rfl rfl rfl (mayG_c hl) (?_)
  refine rv rfl rfl (?_)
  refine rv rfl rfl (?_)
  (first | refine gy rfl rfl rfl (rv rfl rfl (?_)) | refine gn rfl rfl rfl rfl rfl ?_ | refine gu rfl rfl rfl rfl ?_ | refine gs rfl rfl rfl rfl rfl (fun hg => rv rfl rfl (?_)) (fun hg => ?_)) <;> (
  (first | refine gy rfl rfl rfl (rc1 rfl rfl rfl mayP_c (?_)) | refine gn rfl rfl rfl rfl rfl ?_ | refine gu rfl rfl rfl rfl ?_ | refine gs rfl rfl rfl rfl rfl (fun hg => rc1 rfl rfl rfl mayP_c (?_)) (fun hg => ?_)) <;> (
  (first | refine gy rfl rfl rfl (rv rfl rfl (?_)) | refine gn rfl rfl rfl rfl rfl ?_ | refine gu rfl rfl rfl rfl ?_ | refine gs rfl rfl rfl rfl rfl (fun hg => rv rfl rfl (?_)) (fun hg => ?_)) <;> (
  refine rv rfl rfl (?_)
  refine rv rfl rfl (?_)
  refine rn ?_
  refine then_normal ?_
  refine cs_ rfl (fun hc => ?_) (fun hc => ?_)
  · first
    | (cases hc; done)
    | (
      refine awp_seq ?_
      refine awp_region ?_
      refine rv rfl rfl (?_)
      refine rn ?_
      refine then_normal ?_
      refine awp_ret ?_
      repeat (first | refine then_ret ?_ | refine inBlock_ret ?_)
      refine rr rfl rfl ?_
      first | exact eb (inG_1 (nots (by assumption))) | exact eb (inG_2 (nots (by assumption))) | exact eb (inG_3 (notf (by assumption)) (notf (by assumption))) | exact eb (inG_4 (notf (by assumption)) (notf (by assumption))) | (exfalso; simp [rows] at hc; done) | (exfalso; simp [rows] at hc; omega) | trace_state)
  · first
    | (cases hc; done)
    | (
      refine awp_seq ?_
      refine awp_region ?_
      refine rv rfl rfl (?_)
      refine rv rfl rfl (?_)
      refine rv rfl rfl (?_)
      refine rv rfl rfl (?_)
      refine rv rfl rfl (?_)
      refine rn ?_
      refine then_normal ?_
      refine cs_ rfl (fun hc => ?_) (fun hc => ?_)
      · first
        | (cases hc; done)
        | (
          refine awp_seq ?_
          refine awp_region ?_
          refine rv rfl rfl (?_)
          refine rv rfl rfl (?_)
          refine rv rfl rfl (?_)
          refine rc1 rfl rfl rfl (in_c hl) (?_)
          refine rv rfl rfl (?_)
          refine rn ?_
          refine then_normal ?_
          refine awp_ret ?_
          repeat (first | refine then_ret ?_ | refine inBlock_ret ?_)
          refine rr rfl rfl ?_
          first | exact eb (inG_1 (nots (by assumption))) | exact eb (inG_2 (nots (by assumption))) | exact eb (inG_3 (notf (by assumption)) (notf (by assumption))) | exact eb (inG_4 (notf (by assumption)) (notf (by assumption))) | (exfalso; simp [rows] at hc; done) | (exfalso; simp [rows] at hc; omega) | trace_state)
      · first
        | (cases hc; done)
        | (
          refine awp_skip ?_
          refine inBlock_normal ?_
          refine then_normal ?_
          refine awp_seq ?_
          refine awp_region ?_
          refine rv rfl rfl (?_)
          refine rv rfl rfl (?_)
          refine rv rfl rfl (?_)
          refine rc1 rfl rfl rfl inR_c (?_)
          refine rv rfl rfl (?_)
          refine rn ?_
          refine then_normal ?_
          refine awp_ret ?_
          repeat (first | refine then_ret ?_ | refine inBlock_ret ?_)
          refine rr rfl rfl ?_
          first | exact eb (inG_1 (nots (by assumption))) | exact eb (inG_2 (nots (by assumption))) | exact eb (inG_3 (notf (by assumption)) (notf (by assumption))) | exact eb (inG_4 (notf (by assumption)) (notf (by assumption))) | (exfalso; simp [rows] at hc; done) | (exfalso; simp [rows] at hc; omega) | trace_state))))))
end

section
attribute [local irreducible] awp aops DP PCall ACall Decidable.decide Nat.mod simpB mayP mayR mayG inE inR box addB holdsR
/-- `plover/ploverref15.In` -/
theorem rinG_c {a b c d : Int} {l : List Pt} {p : Pt} (hl : l.length ≤ maxLen) : PCall Try.prog 35 [.agg [.int .i64 (a), .int .i64 (b), .int .i64 (c), .int .i64 (d), .sl (rows l)], .agg [.int .i64 (p).1, .int .i64 (p).2]] (· = .bool (inG a b c d l p)) := by
  refine pcall_body Try.func35 rfl (by kernel_rfl) (by rfl) ?_
  refine awp_seq ?_
  (rcases l with _ | ⟨q, t⟩) <;> (
  refine awp_region ?_
  refine rb rfl rfl (?_)
  refine rb rfl rfl (?_)
  refine rv rfl rfl (?_)
  refine rn ?_
  refine then_normal ?_
  refine awp_seq ?_
  refine awp_region ?_
  refine rv rfl rfl (?_)
  refine rc1 rfl rfl rfl (rmayG_c hl) (?_)
  refine rv rfl rfl (?_)
  refine rn ?_
  refine then_normal ?_
  refine awp_seq ?_
  refine awp_region ?_
  refine rv rfl rfl (?_)
  refine rc1 rfl rfl rfl rmayP_c (?_)
  refine rv rfl rfl (?_)
  refine rn ?_
  refine then_normal ?_
  refine awp_seq ?_
  refine awp_seq ?_
  refine awp_region ?_
  refine rv rfl rfl (?_)
  refine rv rfl rfl (?_)
  refine rv rfl rfl (?_)
  (first | refine gy rfl rfl rfl (rv rfl rfl (?_)) | refine gn rfl rfl rfl rfl rfl ?_ | refine gu rfl rfl rfl rfl ?_ | refine gs rfl rfl rfl rfl rfl (fun hg => rv rfl rfl (?_)) (fun hg => ?_)) <;> (
  (first | refine gy rfl rfl rfl (rv rfl rfl (?_)) | refine gn rfl rfl rfl rfl rfl ?_ | refine gu rfl rfl rfl rfl ?_ | refine gs rfl rfl rfl rfl rfl (fun hg => rv rfl rfl (?_)) (fun hg => ?_)) <;> (
  refine rv rfl rfl (?_)
  refine rn ?_
  refine then_normal ?_
  refine cs_ rfl (fun hc => ?_) (fun hc => ?_)
  · first
    | (cases hc; done)
    | (
      refine awp_seq ?_
      refine awp_region ?_
      refine rv rfl rfl (?_)
      refine rn ?_
      refine then_normal ?_
      refine awp_ret ?_
      repeat (first | refine then_ret ?_ | refine inBlock_ret ?_)
      refine rr rfl rfl ?_
      first | exact eb (inG_1 (nots (by assumption))) | exact eb (inG_2 (nots (by assumption))) | exact eb (inG_3 (notf (by assumption)) (notf (by assumption))) | exact eb (inG_4 (notf (by assumption)) (notf (by assumption))) | (exfalso; simp [rows] at hc; done) | (exfalso; simp [rows] at hc; omega) | trace_state)
  · first
    | (cases hc; done)
    | (
      refine awp_skip ?_
      refine then_normal ?_
      refine awp_seq ?_
      refine awp_seq ?_
      refine awp_region ?_
      refine rv rfl rfl (?_)
      refine rv rfl rfl (?_)
      refine rv rfl rfl (?_)
      refine rv rfl rfl (?_)
      refine rn ?_
      refine then_normal ?_
      refine cs_ rfl (fun hc => ?_) (fun hc => ?_)
      · first
        | (cases hc; done)
        | (
          refine awp_seq ?_
          refine awp_region ?_
          refine rv rfl rfl (?_)
          refine rv rfl rfl (?_)
          refine rv rfl rfl (?_)
          refine rc1 rfl rfl rfl rIn_c (?_)
          refine rv rfl rfl (?_)
          refine rn ?_
          refine then_normal ?_
          refine awp_ret ?_
          repeat (first | refine then_ret ?_ | refine inBlock_ret ?_)
          refine rr rfl rfl ?_
          first | exact eb (inG_1 (nots (by assumption))) | exact eb (inG_2 (nots (by assumption))) | exact eb (inG_3 (notf (by assumption)) (notf (by assumption))) | exact eb (inG_4 (notf (by assumption)) (notf (by assumption))) | (exfalso; simp [rows] at hc; done) | (exfalso; simp [rows] at hc; omega) | trace_state)
      · first
        | (cases hc; done)
        | (
          refine awp_skip ?_
          refine then_normal ?_
          refine awp_seq ?_
          refine awp_region ?_
          refine rv rfl rfl (?_)
          refine rv rfl rfl (?_)
          refine rv rfl rfl (?_)
          refine rc1 rfl rfl rfl (rin_cb hl (notf (by assumption)) (notf (by assumption)) (by first | (simp [rows] at hc; done) | simp)) (?_)
          refine rv rfl rfl (?_)
          refine rn ?_
          refine then_normal ?_
          refine awp_ret ?_
          repeat (first | refine then_ret ?_ | refine inBlock_ret ?_)
          refine rr rfl rfl ?_
          first | exact eb (inG_1 (nots (by assumption))) | exact eb (inG_2 (nots (by assumption))) | exact eb (inG_3 (notf (by assumption)) (notf (by assumption))) | exact eb (inG_4 (notf (by assumption)) (notf (by assumption))) | (exfalso; simp [rows] at hc; done) | (exfalso; simp [rows] at hc; omega) | trace_state)))))
end

section
attribute [local irreducible] awp aops DP PCall ACall Decidable.decide Nat.mod simpB mayP mayR mayG inE inR box addB holdsR
/-- `plover/ploverref15.Box` -/
theorem rboxG_c {a b c d : Int} {l : List Pt} (hl : l.length ≤ maxLen) (hm : mayG a b c d l = true) : PCall Try.prog 36 [.agg [.int .i64 (a), .int .i64 (b), .int .i64 (c), .int .i64 (d), .sl (rows l)]] (· = rcV (bxG a b c d l)) := by
  refine pcall_body Try.func36 rfl (by kernel_rfl) (by rfl) ?_
  refine awp_seq ?_
  (rcases l with _ | ⟨q, t⟩) <;> (
  refine awp_region ?_
  refine rb rfl rfl (?_)
  refine ra rfl rfl rfl (?_)
  refine rn ?_
  refine then_normal ?_
  refine awp_seq ?_
  refine awp_seq ?_
  refine awp_region ?_
  refine rv rfl rfl (?_)
  refine rv rfl rfl (?_)
  refine rv rfl rfl (?_)
  refine rv rfl rfl (?_)
  refine rn ?_
  refine then_normal ?_
  refine cs_ rfl (fun hc => ?_) (fun hc => ?_)
  · first
    | (cases hc; done)
    | (
      refine awp_seq ?_
      refine awp_region ?_
      refine rv rfl rfl (?_)
      refine rv rfl rfl (?_)
      refine rs rfl rfl rfl rfl rfl rfl rfl (?_)
      refine rn ?_
      refine then_normal ?_
      refine awp_ret ?_
      repeat (first | refine then_ret ?_ | refine inBlock_ret ?_)
      refine rr rfl rfl ?_
      first | rfl | (exfalso; simp [rows] at hc; done) | (exfalso; simp [rows] at hc; omega) | trace_state)
  · first
    | (cases hc; done)
    | (
      refine awp_skip ?_
      refine then_normal ?_
      refine awp_seq ?_
      refine awp_region ?_
      refine rv rfl rfl (?_)
      refine rv rfl rfl (?_)
      refine rc1 rfl rfl rfl (by first | exact rof_cb hl hm | exact rof_c hl) (?_)
      refine rv rfl rfl (?_)
      refine rv rfl rfl (?_)
      refine rv rfl rfl (?_)
      refine ra rfl rfl rfl (?_)
      refine rs rfl rfl rfl rfl rfl rfl rfl (?_)
      refine rv rfl rfl (?_)
      refine rn ?_
      refine then_normal ?_
      refine awp_seq ?_
      refine awp_region ?_
      refine rv rfl rfl (?_)
      refine rs rfl rfl rfl rfl rfl rfl rfl (?_)
      refine rn ?_
      refine then_normal ?_
      refine awp_ret ?_
      repeat (first | refine then_ret ?_ | refine inBlock_ret ?_)
      refine rr rfl rfl ?_
      first | rfl | (exfalso; simp [rows] at hc; done) | (exfalso; simp [rows] at hc; omega) | trace_state))
end

def eqL (l m : List Pt) : Bool := decide (l = m)
def eqI (l m : List Pt) (i : Nat) : Prop := i ≤ l.length ∧ l.length = m.length ∧ ∀ j, j < i → gp l j = gp m j
theorem eqI_step {l m : List Pt} {i : Nat} (h : eqI l m i) (hl : i < l.length) (he : eqP (gp l i) (gp m i) = true) : eqI l m (i + 1) :=
  ⟨hl, h.2.1, fun j hj => by
    by_cases e : j = i
    · subst e; exact eqP_iff.1 he
    · exact h.2.2 j (by omega)⟩
theorem eqI_end {l m : List Pt} {i : Nat} (h : eqI l m i) (hn : ¬ i < l.length) : true = eqL l m := by
  have : l = m := List.ext_getElem h.2.1 fun j h1 h2 => by
    have := h.2.2 j (by omega)
    rwa [gp_lt h1, gp_lt h2] at this
  unfold eqL; rw [this]; simp
theorem eqL_len {l m : List Pt} (h : (((rows l).length : Int) != ((rows m).length : Int)) = true) : false = eqL l m := by
  have : l ≠ m := fun e => by rw [e] at h; simp at h
  unfold eqL; simp [this]
theorem eqL_ne {l m : List Pt} {i : Nat} (h : eqI l m i) (hi : i < l.length) (he : eqP (gp l i) (gp m i) = false) : false = eqL l m := by
  have : l ≠ m := fun e => by
    rw [e, eqP_iff.2 rfl] at he; cases he
  unfold eqL; simp [this]
theorem eqP_t {a b : Pt} (h : (!(a.1 == b.1 && (a.2 == b.2 && true))) = false) : eqP a b = true := by
  unfold eqP; revert h; cases (a.1 == b.1) <;> cases (a.2 == b.2) <;> simp
theorem eqP_f {a b : Pt} (h : (!(a.1 == b.1 && (a.2 == b.2 && true))) = true) : eqP a b = false := by
  unfold eqP; revert h; cases (a.1 == b.1) <;> cases (a.2 == b.2) <;> simp
theorem len_eq {l m : List Pt} (h : (((rows l).length : Int) != ((rows m).length : Int)) = false) : l.length = m.length := by
  rw [rows_len, rows_len] at h; exact Int.ofNat.inj (bne_eq_false_iff_eq.1 h)
theorem eq_4 {a b c d a' b' c' d' : Int} : (a == a' && b == b' && c == c' && d == d') = true ↔ (a = a' ∧ b = b' ∧ c = c' ∧ d = d') := by
  simp [and_assoc]
def sameR (a b c d a' b' c' d' : Int) : Bool := a == a' && (b == b' && (c == c' && (d == d' && true)))
def sameG (a b c d : Int) (l : List Pt) (a' b' c' d' : Int) (m : List Pt) : Bool := sameR a b c d a' b' c' d' && eqL l m
theorem same_1 {a b c d a' b' c' d' : Int} {l m : List Pt} (h : sameR a b c d a' b' c' d' = false) : false = sameG a b c d l a' b' c' d' m := by unfold sameG; rw [h]; rfl
theorem same_2 {a b c d a' b' c' d' : Int} {l m : List Pt} {x : Bool} (h : sameR a b c d a' b' c' d' = true) (hx : x = eqL l m) : x = sameG a b c d l a' b' c' d' m := by unfold sameG; rw [h, hx]; rfl

section
attribute [local irreducible] awp aops DP PCall ACall Decidable.decide Nat.mod eqL
/-- `slices.Equal[[]plover/api.Point,plover/api.Point]` -/
theorem equal_c {l m : List Pt} (hl : l.length ≤ maxLen) : PCall Try.prog 79 [.sl (rows l), .sl (rows m)] (· = .bool (eqL l m)) := by
  refine pcall_body Try.func79 rfl (by kernel_rfl) (by rfl) ?_
  refine awp_seq ?_
  refine awp_region ?_
  refine rv rfl rfl (?_)
  refine rn ?_
  refine then_normal ?_
  refine awp_seq ?_
  refine awp_seq ?_
  refine awp_region ?_
  refine rv rfl rfl (?_)
  refine rv rfl rfl (?_)
  refine rv rfl rfl (?_)
  refine rv rfl rfl (?_)
  refine rv rfl rfl (?_)
  refine rn ?_
  refine then_normal ?_
  refine cs_ rfl (fun hc => ?_) (fun hc => ?_)
  · first
    | (cases hc; done)
    | (
      refine awp_seq ?_
      refine awp_region ?_
      refine rv rfl rfl (?_)
      refine rn ?_
      refine then_normal ?_
      refine awp_ret ?_
      repeat (first | refine then_ret ?_ | refine inBlock_ret ?_)
      refine rr rfl rfl ?_
      first | exact eb (eqL_len (by assumption)) | exact eb (eqL_ne hi hlt (by first | exact eqP_t hc | exact eqP_f hc)) | exact eb (eqI_end hi (not_lt_len hc)) | trace_state)
  · first
    | (cases hc; done)
    | (
      refine awp_skip ?_
      refine then_normal ?_
      refine awp_seq ?_
      refine awp_seq ?_
      (have hle := len_eq hc) <;> (
      refine awp_region ?_
      refine rv rfl rfl (?_)
      refine rv rfl rfl (?_)
      refine rv rfl rfl (?_)
      refine rn ?_
      refine then_normal ?_
      refine awp_block ?_
      refine awp_loop (ι := Nat) (fun i => ⟨[(0, .sl (rows l)), (1, .sl (rows m)), (11, .sl (rows l)), (12, .int .i64 ((rows l).length : Int)), (13, .int .i64 (i : Int))], [], [], 0⟩) (fun i => eqI l m i) (fun i => l.length - i) (0) (⟨Nat.zero_le _, hle, fun j hj => by omega⟩) ?_ (fun _ => Nat.zero_le _) (fun i hi => ?_)
      · refine ⟨Nat.le_of_ble_eq_true rfl, ?_, ?_, ?_⟩
        · refine ⟨⟨?_, rfl⟩, ?_⟩
          · first | rfl | ((first | refine ei ?_ | refine eh ?_ | refine eb ?_ | refine ehb ?_ | skip); exact W_succ hlt hl)
          refine ⟨⟨?_, rfl⟩, ?_⟩
          · first | rfl | ((first | refine ei ?_ | refine eh ?_ | refine eb ?_ | refine ehb ?_ | skip); exact W_succ hlt hl)
          refine ⟨⟨?_, rfl⟩, ?_⟩
          · first | rfl | ((first | refine ei ?_ | refine eh ?_ | refine eb ?_ | refine ehb ?_ | skip); exact W_succ hlt hl)
          refine ⟨⟨?_, rfl⟩, ?_⟩
          · first | rfl | ((first | refine ei ?_ | refine eh ?_ | refine eb ?_ | refine ehb ?_ | skip); exact W_succ hlt hl)
          refine ⟨⟨?_, rfl⟩, ?_⟩
          · first | rfl | ((first | refine ei ?_ | refine eh ?_ | refine eb ?_ | refine ehb ?_ | skip); exact W_succ hlt hl)
          exact trivial
        · exact trivial
        · exact trivial
      refine awp_seq ?_
      refine awp_region ?_
      refine rv rfl rfl (?_)
      refine rn ?_
      refine then_normal ?_
      refine awp_seq ?_
      refine cs_ rfl (fun hc => ?_) (fun hc => ?_)
      · first
        | (cases hc; done)
        | (
          refine awp_skip ?_
          refine then_normal ?_
          refine awp_seq ?_
          refine awp_block ?_
          refine awp_seq ?_
          refine awp_region ?_
          refine rv rfl rfl (?_)
          refine rv rfl rfl (?_)
          refine rn ?_
          refine then_normal ?_
          refine awp_seq ?_
          (have hlt := lt_len (by assumption)) <;> (
          refine awp_dp (m := 9) Try.mix (by kernel_rfl) (by kernel_rfl) (by kernel_rfl) (by kernel_rfl) (by kernel_rfl) (by kernel_rfl) (by kernel_rfl) ?_
          refine dv rfl rfl (fun _ => rfl) ?_
          refine dv rfl rfl (fun _ => rfl) ?_
          refine di rfl rfl rfl rfl rfl (fun _ => rfl) rfl (Int.natCast_nonneg _) (rows_i hlt) (rows_wide l) ?_
          refine dv rfl rfl (fun _ => rfl) ?_
          refine dv rfl rfl (fun _ => rfl) ?_
          refine dv rfl rfl (fun _ => rfl) ?_
          refine di rfl rfl rfl rfl rfl (fun _ => rfl) rfl (Int.natCast_nonneg _) (rows_i (by omega)) (rows_wide m) ?_
          refine dv rfl rfl (fun _ => rfl) ?_
          refine dv rfl rfl (fun _ => rfl) ?_
          refine dn ?_
          refine rn ?_
          refine then_normal ?_
          refine cs_ rfl (fun hc => ?_) (fun hc => ?_)
          · first
            | (cases hc; done)
            | (
              refine awp_seq ?_
              refine awp_region ?_
              refine rv rfl rfl (?_)
              refine rn ?_
              refine then_normal ?_
              refine awp_ret ?_
              repeat (first | refine then_ret ?_ | refine inBlock_ret ?_)
              refine rr rfl rfl ?_
              first | exact eb (eqL_len (by assumption)) | exact eb (eqL_ne hi hlt (by first | exact eqP_t hc | exact eqP_f hc)) | exact eb (eqI_end hi (not_lt_len hc)) | trace_state)
          · first
            | (cases hc; done)
            | (
              refine awp_skip ?_
              refine inBlock_normal ?_
              refine then_normal ?_
              refine awp_region ?_
              refine rv rfl rfl (?_)
              refine rv rfl rfl (?_)
              refine rn ?_
              refine then_normal ?_
              refine ⟨i + 1, eqI_step hi hlt (by first | exact eqP_t hc | exact eqP_f hc), by omega, ?_⟩
              refine ⟨Nat.le_of_ble_eq_true rfl, ?_, ?_, ?_⟩
              · refine ⟨⟨?_, rfl⟩, ?_⟩
                · first | rfl | ((first | refine ei ?_ | refine eh ?_ | refine eb ?_ | refine ehb ?_ | skip); exact W_succ hlt hl)
                refine ⟨⟨?_, rfl⟩, ?_⟩
                · first | rfl | ((first | refine ei ?_ | refine eh ?_ | refine eb ?_ | refine ehb ?_ | skip); exact W_succ hlt hl)
                refine ⟨⟨?_, rfl⟩, ?_⟩
                · first | rfl | ((first | refine ei ?_ | refine eh ?_ | refine eb ?_ | refine ehb ?_ | skip); exact W_succ hlt hl)
                refine ⟨⟨?_, rfl⟩, ?_⟩
                · first | rfl | ((first | refine ei ?_ | refine eh ?_ | refine eb ?_ | refine ehb ?_ | skip); exact W_succ hlt hl)
                refine ⟨⟨?_, rfl⟩, ?_⟩
                · first | rfl | ((first | refine ei ?_ | refine eh ?_ | refine eb ?_ | refine ehb ?_ | skip); exact W_succ hlt hl)
                exact trivial
              · exact trivial
              · exact trivial)))
      · first
        | (cases hc; done)
        | (
          refine awp_exit ?_
          repeat (first | refine then_exit ?_ | refine inBlock_other rfl ?_)
          refine inBlock_exit ?_
          refine then_normal ?_
          refine awp_seq ?_
          refine awp_region ?_
          refine rv rfl rfl (?_)
          refine rn ?_
          refine then_normal ?_
          refine awp_ret ?_
          repeat (first | refine then_ret ?_ | refine inBlock_ret ?_)
          refine rr rfl rfl ?_
          first | exact eb (eqL_len (by assumption)) | exact eb (eqL_ne hi hlt (by first | exact eqP_t hc | exact eqP_f hc)) | exact eb (eqI_end hi (not_lt_len hc)) | trace_state)))
end

section
attribute [local irreducible] awp aops DP PCall ACall Decidable.decide Nat.mod eqL sameG
/-- `plover/region.Same` -/
theorem sameG_c {a b c d a' b' c' d' : Int} {l m : List Pt} (hl : l.length ≤ maxLen) : PCall Try.prog 32 [.agg [.int .i64 (a), .int .i64 (b), .int .i64 (c), .int .i64 (d), .sl (rows l)], .agg [.int .i64 (a'), .int .i64 (b'), .int .i64 (c'), .int .i64 (d'), .sl (rows m)]] (· = .bool (sameG a b c d l a' b' c' d' m)) := by
  refine pcall_body Try.func32 rfl (by kernel_rfl) (by rfl) ?_
  refine awp_seq ?_
  refine awp_region ?_
  refine rb rfl rfl (?_)
  refine rb rfl rfl (?_)
  refine rv rfl rfl (?_)
  refine rn ?_
  refine then_normal ?_
  refine awp_seq ?_
  refine awp_region ?_
  refine rv rfl rfl (?_)
  refine rv rfl rfl (?_)
  refine rv rfl rfl (?_)
  refine rv rfl rfl (?_)
  refine rv rfl rfl (?_)
  refine rv rfl rfl (?_)
  (first | refine gy rfl rfl rfl (rv rfl rfl (?_)) | refine gn rfl rfl rfl rfl rfl ?_ | refine gu rfl rfl rfl rfl ?_ | refine gs rfl rfl rfl rfl rfl (fun hg => rv rfl rfl (?_)) (fun hg => ?_)) <;> (
  (first | refine gy rfl rfl rfl (rv rfl rfl (?_)) | refine gn rfl rfl rfl rfl rfl ?_ | refine gu rfl rfl rfl rfl ?_ | refine gs rfl rfl rfl rfl rfl (fun hg => rv rfl rfl (?_)) (fun hg => ?_)) <;> (
  (first | refine gy rfl rfl rfl (rv rfl rfl (?_)) | refine gn rfl rfl rfl rfl rfl ?_ | refine gu rfl rfl rfl rfl ?_ | refine gs rfl rfl rfl rfl rfl (fun hg => rv rfl rfl (?_)) (fun hg => ?_)) <;> (
  (first | refine gy rfl rfl rfl (rv rfl rfl (?_)) | refine gn rfl rfl rfl rfl rfl ?_ | refine gu rfl rfl rfl rfl ?_ | refine gs rfl rfl rfl rfl rfl (fun hg => rv rfl rfl (?_)) (fun hg => ?_)) <;> (
  (first | refine gy rfl rfl rfl (rc1 rfl rfl rfl (equal_c hl) (?_)) | refine gn rfl rfl rfl rfl rfl ?_ | refine gu rfl rfl rfl rfl ?_ | refine gs rfl rfl rfl rfl rfl (fun hg => rc1 rfl rfl rfl (equal_c hl) (?_)) (fun hg => ?_)) <;> (
  refine rv rfl rfl (?_)
  refine rv rfl rfl (?_)
  refine rn ?_
  refine then_normal ?_
  refine awp_ret ?_
  repeat (first | refine then_ret ?_ | refine inBlock_ret ?_)
  refine rr rfl rfl ?_
  first | exact eb (same_1 (by first | assumption | simpa [sameR] using hg)) | exact eb (same_2 (by first | assumption | simpa [sameR] using hg) rfl) | trace_state)))))
end

section
attribute [local irreducible] awp aops DP PCall ACall Decidable.decide Nat.mod eqL sameG
/-- `plover/ploverref15.Regions` -/
theorem rsameG_c {a b c d a' b' c' d' : Int} {l m : List Pt} (hl : l.length ≤ maxLen) : PCall Try.prog 33 [.agg [.int .i64 (a), .int .i64 (b), .int .i64 (c), .int .i64 (d), .sl (rows l)], .agg [.int .i64 (a'), .int .i64 (b'), .int .i64 (c'), .int .i64 (d'), .sl (rows m)]] (· = .bool (sameG a b c d l a' b' c' d' m)) := by
  refine pcall_body Try.func33 rfl (by kernel_rfl) (by rfl) ?_
  refine awp_seq ?_
  refine awp_region ?_
  refine rb rfl rfl (?_)
  refine rb rfl rfl (?_)
  refine rv rfl rfl (?_)
  refine rn ?_
  refine then_normal ?_
  refine awp_seq ?_
  refine awp_seq ?_
  refine awp_region ?_
  refine rv rfl rfl (?_)
  refine rv rfl rfl (?_)
  refine rv rfl rfl (?_)
  refine rv rfl rfl (?_)
  refine rv rfl rfl (?_)
  refine rv rfl rfl (?_)
  (first | refine gy rfl rfl rfl (rv rfl rfl (?_)) | refine gn rfl rfl rfl rfl rfl ?_ | refine gu rfl rfl rfl rfl ?_ | refine gs rfl rfl rfl rfl rfl (fun hg => rv rfl rfl (?_)) (fun hg => ?_)) <;> (
  (first | refine gy rfl rfl rfl (rv rfl rfl (?_)) | refine gn rfl rfl rfl rfl rfl ?_ | refine gu rfl rfl rfl rfl ?_ | refine gs rfl rfl rfl rfl rfl (fun hg => rv rfl rfl (?_)) (fun hg => ?_)) <;> (
  (first | refine gy rfl rfl rfl (rv rfl rfl (?_)) | refine gn rfl rfl rfl rfl rfl ?_ | refine gu rfl rfl rfl rfl ?_ | refine gs rfl rfl rfl rfl rfl (fun hg => rv rfl rfl (?_)) (fun hg => ?_)) <;> (
  (first | refine gy rfl rfl rfl (rv rfl rfl (?_)) | refine gn rfl rfl rfl rfl rfl ?_ | refine gu rfl rfl rfl rfl ?_ | refine gs rfl rfl rfl rfl rfl (fun hg => rv rfl rfl (?_)) (fun hg => ?_)) <;> (
  (first | refine gy rfl rfl rfl (rv rfl rfl (?_)) | refine gn rfl rfl rfl rfl rfl ?_ | refine gu rfl rfl rfl rfl ?_ | refine gs rfl rfl rfl rfl rfl (fun hg => rv rfl rfl (?_)) (fun hg => ?_)) <;> (
  (first | refine gy rfl rfl rfl (rv rfl rfl (?_)) | refine gn rfl rfl rfl rfl rfl ?_ | refine gu rfl rfl rfl rfl ?_ | refine gs rfl rfl rfl rfl rfl (fun hg => rv rfl rfl (?_)) (fun hg => ?_)) <;> (
  (first | refine gy rfl rfl rfl (rv rfl rfl (?_)) | refine gn rfl rfl rfl rfl rfl ?_ | refine gu rfl rfl rfl rfl ?_ | refine gs rfl rfl rfl rfl rfl (fun hg => rv rfl rfl (?_)) (fun hg => ?_)) <;> (
  refine rv rfl rfl (?_)
  refine rn ?_
  refine then_normal ?_
  refine cs_ rfl (fun hc => ?_) (fun hc => ?_)
  · first
    | (cases hc; done)
    | (
      refine awp_seq ?_
      refine awp_region ?_
      refine rv rfl rfl (?_)
      refine rn ?_
      refine then_normal ?_
      refine awp_ret ?_
      repeat (first | refine then_ret ?_ | refine inBlock_ret ?_)
      refine rr rfl rfl ?_
      first | exact eb (same_1 (nots (by assumption))) | exact eb (same_2 hr4 (eqL_len (by assumption))) | exact eb (same_2 (notf (by assumption)) (eqL_len (by assumption))) | exact eb (same_2 hr4 (eqL_ne hi hlt (by first | exact eqP_t hc | exact eqP_f hc))) | exact eb (same_2 hr4 (eqI_end hi (not_lt_len hc))) | trace_state)
  · first
    | (cases hc; done)
    | (
      refine awp_skip ?_
      refine then_normal ?_
      refine awp_seq ?_
      refine awp_seq ?_
      (have hr4 : sameR a b c d a' b' c' d' = true := notf (by assumption); have hle := len_eq hc) <;> (
      refine awp_region ?_
      refine rv rfl rfl (?_)
      refine rn ?_
      refine then_normal ?_
      refine awp_block ?_
      refine awp_loop (ι := Nat) (fun i => ⟨[(2, .ptr 0 0), (3, .ptr 1 0), (4, .bool false), (5, .int .i64 (i : Int))], [(0, 0, .int .i64 a), (0, 1, .int .i64 b), (0, 2, .int .i64 c), (0, 3, .int .i64 d), (0, 4, .sl (rows l)), (1, 0, .int .i64 a'), (1, 1, .int .i64 b'), (1, 2, .int .i64 c'), (1, 3, .int .i64 d'), (1, 4, .sl (rows m))], [], 2⟩) (fun i => eqI l m i) (fun i => l.length - i) (0) (⟨Nat.zero_le _, hle, fun j hj => by omega⟩) ?_ (fun _ => Nat.zero_le _) (fun i hi => ?_)
      · refine ⟨Nat.le_of_ble_eq_true rfl, ?_, ?_, ?_⟩
        · refine ⟨⟨?_, rfl⟩, ?_⟩
          · first | rfl | ((first | refine ei ?_ | refine eh ?_ | refine eb ?_ | refine ehb ?_ | skip); exact W_succ hlt hl)
          refine ⟨⟨?_, rfl⟩, ?_⟩
          · first | rfl | ((first | refine ei ?_ | refine eh ?_ | refine eb ?_ | refine ehb ?_ | skip); exact W_succ hlt hl)
          refine ⟨⟨?_, rfl⟩, ?_⟩
          · first | rfl | ((first | refine ei ?_ | refine eh ?_ | refine eb ?_ | refine ehb ?_ | skip); exact W_succ hlt hl)
          refine ⟨⟨?_, rfl⟩, ?_⟩
          · first | rfl | ((first | refine ei ?_ | refine eh ?_ | refine eb ?_ | refine ehb ?_ | skip); exact W_succ hlt hl)
          exact trivial
        · refine ⟨⟨?_, rfl, rfl⟩, ?_⟩
          · first | rfl | ((first | refine ei ?_ | refine eh ?_ | refine eb ?_ | refine ehb ?_ | skip); exact W_succ hlt hl)
          refine ⟨⟨?_, rfl, rfl⟩, ?_⟩
          · first | rfl | ((first | refine ei ?_ | refine eh ?_ | refine eb ?_ | refine ehb ?_ | skip); exact W_succ hlt hl)
          refine ⟨⟨?_, rfl, rfl⟩, ?_⟩
          · first | rfl | ((first | refine ei ?_ | refine eh ?_ | refine eb ?_ | refine ehb ?_ | skip); exact W_succ hlt hl)
          refine ⟨⟨?_, rfl, rfl⟩, ?_⟩
          · first | rfl | ((first | refine ei ?_ | refine eh ?_ | refine eb ?_ | refine ehb ?_ | skip); exact W_succ hlt hl)
          refine ⟨⟨?_, rfl, rfl⟩, ?_⟩
          · first | rfl | ((first | refine ei ?_ | refine eh ?_ | refine eb ?_ | refine ehb ?_ | skip); exact W_succ hlt hl)
          refine ⟨⟨?_, rfl, rfl⟩, ?_⟩
          · first | rfl | ((first | refine ei ?_ | refine eh ?_ | refine eb ?_ | refine ehb ?_ | skip); exact W_succ hlt hl)
          refine ⟨⟨?_, rfl, rfl⟩, ?_⟩
          · first | rfl | ((first | refine ei ?_ | refine eh ?_ | refine eb ?_ | refine ehb ?_ | skip); exact W_succ hlt hl)
          refine ⟨⟨?_, rfl, rfl⟩, ?_⟩
          · first | rfl | ((first | refine ei ?_ | refine eh ?_ | refine eb ?_ | refine ehb ?_ | skip); exact W_succ hlt hl)
          refine ⟨⟨?_, rfl, rfl⟩, ?_⟩
          · first | rfl | ((first | refine ei ?_ | refine eh ?_ | refine eb ?_ | refine ehb ?_ | skip); exact W_succ hlt hl)
          refine ⟨⟨?_, rfl, rfl⟩, ?_⟩
          · first | rfl | ((first | refine ei ?_ | refine eh ?_ | refine eb ?_ | refine ehb ?_ | skip); exact W_succ hlt hl)
          exact trivial
        · exact trivial
      refine awp_seq ?_
      refine awp_seq ?_
      refine awp_region ?_
      refine rv rfl rfl (?_)
      refine rv rfl rfl (?_)
      refine rv rfl rfl (?_)
      refine rv rfl rfl (?_)
      refine rv rfl rfl (?_)
      refine rn ?_
      refine then_normal ?_
      refine cs_ rfl (fun hc => ?_) (fun hc => ?_)
      · first
        | (cases hc; done)
        | (
          refine awp_skip ?_
          refine then_normal ?_
          refine awp_seq ?_
          refine awp_block ?_
          refine awp_seq ?_
          (have hlt := lt_len (by assumption)) <;> (
          refine awp_dp (m := 11) Try.mix (by kernel_rfl) (by kernel_rfl) (by kernel_rfl) (by kernel_rfl) (by kernel_rfl) (by kernel_rfl) (by kernel_rfl) ?_
          refine dv rfl rfl (fun _ => rfl) ?_
          refine dv rfl rfl (fun _ => rfl) ?_
          refine dv rfl rfl (fun _ => rfl) ?_
          refine di rfl rfl rfl rfl rfl (fun _ => rfl) rfl (Int.natCast_nonneg _) (rows_i hlt) (rows_wide l) ?_
          refine dv rfl rfl (fun _ => rfl) ?_
          refine dv rfl rfl (fun _ => rfl) ?_
          refine dv rfl rfl (fun _ => rfl) ?_
          refine dv rfl rfl (fun _ => rfl) ?_
          refine di rfl rfl rfl rfl rfl (fun _ => rfl) rfl (Int.natCast_nonneg _) (rows_i (by omega)) (rows_wide m) ?_
          refine dv rfl rfl (fun _ => rfl) ?_
          refine dv rfl rfl (fun _ => rfl) ?_
          refine dn ?_
          refine rn ?_
          refine then_normal ?_
          refine cs_ rfl (fun hc => ?_) (fun hc => ?_)
          · first
            | (cases hc; done)
            | (
              refine awp_seq ?_
              refine awp_region ?_
              refine rv rfl rfl (?_)
              refine rn ?_
              refine then_normal ?_
              refine awp_ret ?_
              repeat (first | refine then_ret ?_ | refine inBlock_ret ?_)
              refine rr rfl rfl ?_
              first | exact eb (same_1 (nots (by assumption))) | exact eb (same_2 hr4 (eqL_len (by assumption))) | exact eb (same_2 (notf (by assumption)) (eqL_len (by assumption))) | exact eb (same_2 hr4 (eqL_ne hi hlt (by first | exact eqP_t hc | exact eqP_f hc))) | exact eb (same_2 hr4 (eqI_end hi (not_lt_len hc))) | trace_state)
          · first
            | (cases hc; done)
            | (
              refine awp_skip ?_
              refine inBlock_normal ?_
              refine then_normal ?_
              refine awp_region ?_
              refine rv rfl rfl (?_)
              refine rv rfl rfl (?_)
              refine rv rfl rfl (?_)
              refine rn ?_
              refine then_normal ?_
              refine ⟨i + 1, eqI_step hi hlt (by first | exact eqP_t hc | exact eqP_f hc), by omega, ?_⟩
              refine ⟨Nat.le_of_ble_eq_true rfl, ?_, ?_, ?_⟩
              · refine ⟨⟨?_, rfl⟩, ?_⟩
                · first | rfl | ((first | refine ei ?_ | refine eh ?_ | refine eb ?_ | refine ehb ?_ | skip); exact W_succ hlt hl)
                refine ⟨⟨?_, rfl⟩, ?_⟩
                · first | rfl | ((first | refine ei ?_ | refine eh ?_ | refine eb ?_ | refine ehb ?_ | skip); exact W_succ hlt hl)
                refine ⟨⟨?_, rfl⟩, ?_⟩
                · first | rfl | ((first | refine ei ?_ | refine eh ?_ | refine eb ?_ | refine ehb ?_ | skip); exact W_succ hlt hl)
                refine ⟨⟨?_, rfl⟩, ?_⟩
                · first | rfl | ((first | refine ei ?_ | refine eh ?_ | refine eb ?_ | refine ehb ?_ | skip); exact W_succ hlt hl)
                exact trivial
              · refine ⟨⟨?_, rfl, rfl⟩, ?_⟩
                · first | rfl | ((first | refine ei ?_ | refine eh ?_ | refine eb ?_ | refine ehb ?_ | skip); exact W_succ hlt hl)
                refine ⟨⟨?_, rfl, rfl⟩, ?_⟩
                · first | rfl | ((first | refine ei ?_ | refine eh ?_ | refine eb ?_ | refine ehb ?_ | skip); exact W_succ hlt hl)
                refine ⟨⟨?_, rfl, rfl⟩, ?_⟩
                · first | rfl | ((first | refine ei ?_ | refine eh ?_ | refine eb ?_ | refine ehb ?_ | skip); exact W_succ hlt hl)
                refine ⟨⟨?_, rfl, rfl⟩, ?_⟩
                · first | rfl | ((first | refine ei ?_ | refine eh ?_ | refine eb ?_ | refine ehb ?_ | skip); exact W_succ hlt hl)
                refine ⟨⟨?_, rfl, rfl⟩, ?_⟩
                · first | rfl | ((first | refine ei ?_ | refine eh ?_ | refine eb ?_ | refine ehb ?_ | skip); exact W_succ hlt hl)
                refine ⟨⟨?_, rfl, rfl⟩, ?_⟩
                · first | rfl | ((first | refine ei ?_ | refine eh ?_ | refine eb ?_ | refine ehb ?_ | skip); exact W_succ hlt hl)
                refine ⟨⟨?_, rfl, rfl⟩, ?_⟩
                · first | rfl | ((first | refine ei ?_ | refine eh ?_ | refine eb ?_ | refine ehb ?_ | skip); exact W_succ hlt hl)
                refine ⟨⟨?_, rfl, rfl⟩, ?_⟩
                · first | rfl | ((first | refine ei ?_ | refine eh ?_ | refine eb ?_ | refine ehb ?_ | skip); exact W_succ hlt hl)
                refine ⟨⟨?_, rfl, rfl⟩, ?_⟩
                · first | rfl | ((first | refine ei ?_ | refine eh ?_ | refine eb ?_ | refine ehb ?_ | skip); exact W_succ hlt hl)
                refine ⟨⟨?_, rfl, rfl⟩, ?_⟩
                · first | rfl | ((first | refine ei ?_ | refine eh ?_ | refine eb ?_ | refine ehb ?_ | skip); exact W_succ hlt hl)
                exact trivial
              · exact trivial)))
      · first
        | (cases hc; done)
        | (
          refine awp_exit ?_
          repeat (first | refine then_exit ?_ | refine inBlock_other rfl ?_)
          refine inBlock_exit ?_
          refine then_normal ?_
          refine awp_seq ?_
          refine awp_region ?_
          refine rv rfl rfl (?_)
          refine rn ?_
          refine then_normal ?_
          refine awp_ret ?_
          repeat (first | refine then_ret ?_ | refine inBlock_ret ?_)
          refine rr rfl rfl ?_
          first | exact eb (same_1 (nots (by assumption))) | exact eb (same_2 hr4 (eqL_len (by assumption))) | exact eb (same_2 (notf (by assumption)) (eqL_len (by assumption))) | exact eb (same_2 hr4 (eqL_ne hi hlt (by first | exact eqP_t hc | exact eqP_f hc))) | exact eb (same_2 hr4 (eqI_end hi (not_lt_len hc))) | trace_state))))))))))
end

section
attribute [local irreducible] awp aops DP PCall ACall Decidable.decide
/-- `plover/ploverref15.Few` -/
theorem few_c {a b c d : Int} {l : List Pt} : PCall Try.prog 28 [.agg [.int .i64 (a), .int .i64 (b), .int .i64 (c), .int .i64 (d), .sl (rows l)]] (· = .bool (decide (((rows l).length : Int) ≤ 70))) := by
  refine pcall_body Try.func28 rfl (by kernel_rfl) (by rfl) ?_
  refine awp_seq ?_
  refine awp_region ?_
  refine rb rfl rfl (?_)
  refine rv rfl rfl (?_)
  refine rn ?_
  refine then_normal ?_
  refine awp_seq ?_
  refine awp_region ?_
  refine rv rfl rfl (?_)
  refine rv rfl rfl (?_)
  refine rv rfl rfl (?_)
  refine rv rfl rfl (?_)
  refine rv rfl rfl (?_)
  refine rn ?_
  refine then_normal ?_
  refine awp_ret ?_
  repeat (first | refine then_ret ?_ | refine inBlock_ret ?_)
  refine rr rfl rfl ?_
  first | rfl | (simp [*]; done) | (simp []; done) | (simp [*]; done) | (simp_all []; done)
end

end Go.Proofs.Ytngeejjllgnpcaa
