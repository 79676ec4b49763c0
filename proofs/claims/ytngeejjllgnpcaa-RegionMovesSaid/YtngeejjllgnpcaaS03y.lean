/- Contracts, printed by a program of this session's. -/
import Derived.Test.YtngeejjllgnpcaaS03x
import Derived.Test.YtngeejjllgnpcaaS00
namespace Go.Proofs.Ytngeejjllgnpcaa
open Go.Pv
set_option maxRecDepth 100000
set_option maxHeartbeats 4000000
set_option linter.unusedSimpArgs false
set_option linter.unusedVariables false
set_option linter.unusedSectionVars false

def tri : List Pt := [(0, 0), (4, 0), (0, 4)]
theorem tri_s : simpB tri = true := by decide +kernel
theorem tri_in : inE tri (1, 1) = true := by decide +kernel
theorem tri_out : inE tri (3, 3) = false := by decide +kernel
theorem tri_tw : twA (area2 tri) = 16 := by decide +kernel
theorem nil_s : simpB [] = false := by decide +kernel
theorem up_1 : PCall Try.prog 17 [.sl [[.int .i64 0, .int .i64 0], [.int .i64 4, .int .i64 0], [.int .i64 0, .int .i64 4]]] (· = .bool true) := tri_s ▸ simple_c (l := tri) (by decide)
theorem up_2 : PCall Try.prog 19 [.sl [[.int .i64 0, .int .i64 0], [.int .i64 4, .int .i64 0], [.int .i64 0, .int .i64 4]], .agg [.int .i64 1, .int .i64 1]] (· = .bool true) := tri_in ▸ in_c (l := tri) (p := (1, 1)) (by decide)
theorem up_3 : PCall Try.prog 19 [.sl [[.int .i64 0, .int .i64 0], [.int .i64 4, .int .i64 0], [.int .i64 0, .int .i64 4]], .agg [.int .i64 3, .int .i64 3]] (· = .bool false) := tri_out ▸ in_c (l := tri) (p := (3, 3)) (by decide)
theorem up_4 : PCall Try.prog 21 [.sl [[.int .i64 0, .int .i64 0], [.int .i64 4, .int .i64 0], [.int .i64 0, .int .i64 4]]] (· = .int .u64 16) := tri_tw ▸ twice_c (l := tri) (by decide)
theorem up_5 : PCall Try.prog 17 [.sl []] (· = .bool false) := nil_s ▸ simple_c (l := []) (by decide)

section
attribute [local irreducible] awp aops DP PCall ACall Decidable.decide
/-- `plover/ploverlaw03.up` -/
theorem up3_c : PCall Try.prog 15 [] (· = .bool (true)) := by
  refine pcall_body Try.func15 rfl (by kernel_rfl) (by rfl) ?_
  refine awp_seq ?_
  refine awp_region ?_
  refine rv rfl rfl (?_)
  refine rn ?_
  refine then_normal ?_
  refine awp_seq ?_
  refine awp_region ?_
  refine rv rfl rfl (?_)
  refine rv rfl rfl (?_)
  refine rv rfl rfl (?_)
  refine rbs false rfl rfl rfl rfl rfl rfl rfl rfl rfl rfl (?_)
  refine rv rfl rfl (?_)
  refine rn ?_
  refine then_normal ?_
  refine awp_seq ?_
  refine awp_region ?_
  refine rv rfl rfl (?_)
  refine rc1 rfl rfl rfl up_1 (?_)
  refine rv rfl rfl (?_)
  (first | refine gy rfl rfl rfl (rv rfl rfl (?_)) | refine gn rfl rfl rfl rfl rfl ?_ | refine gu rfl rfl rfl rfl ?_ | refine gs rfl rfl rfl rfl rfl (fun hg => rv rfl rfl (?_)) (fun hg => ?_)) <;> (
  (first | refine gy rfl rfl rfl (rv rfl rfl (?_)) | refine gn rfl rfl rfl rfl rfl ?_ | refine gu rfl rfl rfl rfl ?_ | refine gs rfl rfl rfl rfl rfl (fun hg => rv rfl rfl (?_)) (fun hg => ?_)) <;> (
  (first | refine gy rfl rfl rfl (rc1 rfl rfl rfl up_2 (?_)) | refine gn rfl rfl rfl rfl rfl ?_ | refine gu rfl rfl rfl rfl ?_ | refine gs rfl rfl rfl rfl rfl (fun hg => rc1 rfl rfl rfl up_2 (?_)) (fun hg => ?_)) <;> (
  refine rv rfl rfl (?_)
  refine rv rfl rfl (?_)
  (first | refine gy rfl rfl rfl (rv rfl rfl (?_)) | refine gn rfl rfl rfl rfl rfl ?_ | refine gu rfl rfl rfl rfl ?_ | refine gs rfl rfl rfl rfl rfl (fun hg => rv rfl rfl (?_)) (fun hg => ?_)) <;> (
  (first | refine gy rfl rfl rfl (rv rfl rfl (?_)) | refine gn rfl rfl rfl rfl rfl ?_ | refine gu rfl rfl rfl rfl ?_ | refine gs rfl rfl rfl rfl rfl (fun hg => rv rfl rfl (?_)) (fun hg => ?_)) <;> (
  (first | refine gy rfl rfl rfl (rc1 rfl rfl rfl up_3 (?_)) | refine gn rfl rfl rfl rfl rfl ?_ | refine gu rfl rfl rfl rfl ?_ | refine gs rfl rfl rfl rfl rfl (fun hg => rc1 rfl rfl rfl up_3 (?_)) (fun hg => ?_)) <;> (
  (first | refine gy rfl rfl rfl (rv rfl rfl (?_)) | refine gn rfl rfl rfl rfl rfl ?_ | refine gu rfl rfl rfl rfl ?_ | refine gs rfl rfl rfl rfl rfl (fun hg => rv rfl rfl (?_)) (fun hg => ?_)) <;> (
  refine rv rfl rfl (?_)
  refine rv rfl rfl (?_)
  (first | refine gy rfl rfl rfl (rv rfl rfl (?_)) | refine gn rfl rfl rfl rfl rfl ?_ | refine gu rfl rfl rfl rfl ?_ | refine gs rfl rfl rfl rfl rfl (fun hg => rv rfl rfl (?_)) (fun hg => ?_)) <;> (
  (first | refine gy rfl rfl rfl (rc1 rfl rfl rfl up_4 (?_)) | refine gn rfl rfl rfl rfl rfl ?_ | refine gu rfl rfl rfl rfl ?_ | refine gs rfl rfl rfl rfl rfl (fun hg => rc1 rfl rfl rfl up_4 (?_)) (fun hg => ?_)) <;> (
  (first | refine gy rfl rfl rfl (rv rfl rfl (?_)) | refine gn rfl rfl rfl rfl rfl ?_ | refine gu rfl rfl rfl rfl ?_ | refine gs rfl rfl rfl rfl rfl (fun hg => rv rfl rfl (?_)) (fun hg => ?_)) <;> (
  refine rv rfl rfl (?_)
  refine rv rfl rfl (?_)
  (first | refine gy rfl rfl rfl (rc1 rfl rfl rfl up_5 (?_)) | refine gn rfl rfl rfl rfl rfl ?_ | refine gu rfl rfl rfl rfl ?_ | refine gs rfl rfl rfl rfl rfl (fun hg => rc1 rfl rfl rfl up_5 (?_)) (fun hg => ?_)) <;> (
  (first | refine gy rfl rfl rfl (rv rfl rfl (?_)) | refine gn rfl rfl rfl rfl rfl ?_ | refine gu rfl rfl rfl rfl ?_ | refine gs rfl rfl rfl rfl rfl (fun hg => rv rfl rfl (?_)) (fun hg => ?_)) <;> (
  refine rv rfl rfl (?_)
  refine rv rfl rfl (?_)
  refine rn ?_
  refine then_normal ?_
  refine awp_ret ?_
  repeat (first | refine then_ret ?_ | refine inBlock_ret ?_)
  refine rr rfl rfl ?_
  first | rfl | (simp [*]; done) | (simp []; done) | (simp [*]; done) | (simp_all []; done)))))))))))))
end

theorem simple_cb {l : List Pt} {s : Bool} (hl : l.length ≤ maxLen) (h : simpB l = s) : PCall Try.prog 17 [.sl (rows l)] (· = .bool s) := h ▸ simple_c hl
theorem rsimple_cb {l : List Pt} {s : Bool} (hl : l.length ≤ maxLen) (h : simpB l = s) : PCall Try.prog 16 [.sl (rows l)] (· = .bool s) := h ▸ rsimple_c hl
def moveO (s a : Bool) (l : List Pt) (d : Pt) : AV := match s, a with
  | true, true => .tup [.sl (rows (l.map (mv d))), .nilI]
  | true, false => .tup [.sl [], .iface 35 (.int .i64 11)]
  | false, _ => .tup [.sl [], .iface 35 (.int .i64 1)]
theorem map_mv {l : List Pt} {d : Pt} (h : l.all (addA d) = true) : l.map (mvW d) = l.map (mv d) :=
  List.map_congr_left fun p hp => (mvW_eq (List.all_eq_true.1 h p hp)).1
theorem move_cb {l : List Pt} {d : Pt} {s a : Bool} (hl : l.length ≤ maxLen) (hs : simpB l = s) (ha : l.all (addA d) = a) : PCall Try.prog 23 [.sl (rows l), .agg [.int .i64 d.1, .int .i64 d.2]] (· = moveO s a l d) := by
  have h := move_c (d := d) hl
  unfold moveT at h
  rw [hs, ha] at h
  cases s with
  | false => exact h
  | true =>
    cases a with
    | false => exact h
    | true => rw [map_mv ha] at h; exact h
def fineB (d p : Pt) : Bool := mayP (W (p.1 + d.1)) (W (p.2 + d.2))
def fineI (l : List Pt) (d : Pt) (i : Nat) : Bool := mayP d.1 d.2 && (l.take i).all (fineB d)
theorem fine_0 (l : List Pt) (d : Pt) : mayP d.1 d.2 = fineI l d 0 := by simp [fineI]
theorem fine_succ {l : List Pt} {d : Pt} {i : Nat} (h : i < l.length) : fineI l d (i + 1) = (fineI l d i && fineB d (gp l i)) := by
  unfold fineI; rw [List.take_add_one, List.getElem?_eq_getElem h, List.all_append, gp_lt h]; simp [Bool.and_assoc]
theorem fine_1 {l : List Pt} {d : Pt} {i : Nat} (h : i < l.length) (hf : fineI l d i = true) : mayP (W ((gp l i).1 + d.1)) (W ((gp l i).2 + d.2)) = fineI l d (i + 1) := by
  rw [fine_succ h, hf]; rfl
theorem fine_2 {l : List Pt} {d : Pt} {i : Nat} (h : i < l.length) (hf : fineI l d i = false) : false = fineI l d (i + 1) := by
  rw [fine_succ h, hf]; rfl
theorem fine_end {l : List Pt} {d : Pt} {i : Nat} {a : Bool} (hs : simpB l = true) (ha : l.all (addA d) = a) (hi : i ≤ l.length) (hn : ¬ i < l.length) : fineI l d i = a := by
  have e : i = l.length := by omega
  subst e
  rw [← ha]
  have h := (simpB_iff l).1 hs
  unfold fineI
  rw [List.take_length, Bool.eq_iff_iff, Bool.and_eq_true, List.all_eq_true, List.all_eq_true]
  constructor
  · rintro ⟨h1, h2⟩ p hp
    have h3 := h2 p hp; have h4 := h.may p hp
    unfold addA addB; unfold fineB at h3; unfold my at h4
    rw [h4, h1, h3]; rfl
  · intro h2
    refine ⟨?_, fun p hp => ?_⟩
    · have := h2 _ (gp_mem (l := l) (by have := h.n3; omega) 0)
      unfold addA addB at this; simp only [Bool.and_eq_true] at this; exact this.1.2
    · have := h2 p hp
      unfold addA addB at this; simp only [Bool.and_eq_true] at this; exact this.2
theorem map_len {l : List Pt} {d : Pt} : ((rows (l.map (mv d))).length : Int) = ((rows l).length : Int) := by simp [rows]
theorem mv_get {l : List Pt} {d : Pt} {i : Nat} (h : i < l.length) : (rows (l.map (mv d)))[((i : Int)).toNat]? = some [.int .i64 ((gp l i).1 + d.1), .int .i64 ((gp l i).2 + d.2)] := by
  rw [rows_i (by simpa using h), gp_map d (by omega)]; rfl
theorem mv_W {l : List Pt} {d : Pt} {i : Nat} (ha : l.all (addA d) = true) (h : i < l.length) : W ((gp l i).1 + d.1) = (gp l i).1 + d.1 ∧ W ((gp l i).2 + d.2) = (gp l i).2 + d.2 := by
  obtain ⟨_, _, e1, e2, _⟩ := may_add (List.all_eq_true.1 ha _ (gp_mem (by omega) i))
  exact ⟨e1, e2⟩
theorem ne_1 {l : List Pt} {d : Pt} {i : Nat} (ha : l.all (addA d) = true) (h : i < l.length) (hc : ((gp l i).1 + d.1 != W ((gp l i).1 + d.1)) = true) : False := by
  rw [(mv_W ha h).1] at hc; simp at hc
theorem ne_2 {l : List Pt} {d : Pt} {i : Nat} (ha : l.all (addA d) = true) (h : i < l.length) (hc : ((gp l i).2 + d.2 != W ((gp l i).2 + d.2)) = true) : False := by
  rw [(mv_W ha h).2] at hc; simp at hc
theorem ne_3 {l : List Pt} {d : Pt} (hc : (((rows (l.map (mv d))).length : Int) != ((rows l).length : Int)) = true) : False := by
  rw [map_len] at hc; simp at hc
theorem beq_no {b : Bool} (h : (b == b) = false) : False := by cases b <;> cases h
theorem ieq_no {b : Int} (h : (b == b) = false) : False := by simp at h
theorem bne_no {b : Bool} (h : (b != b) = true) : False := by cases b <;> cases h

section
attribute [local irreducible] awp aops DP PCall ACall Decidable.decide Nat.mod onV turnV inE simpB mayP addB fineI twA area2
/-- `plover/ploverlaw03.PolyTells` -/
theorem PolyTells_p {l : List Pt} {p : Pt} (hl : l.length ≤ maxLen) : PCall Try.prog 3 [.sl (rows l), .agg [.int .i64 (p).1, .int .i64 (p).2]] (· = .bool (true)) := by
  refine pcall_body Try.func3 rfl (by kernel_rfl) (by rfl) ?_
  refine awp_seq ?_
  refine awp_region ?_
  refine rb rfl rfl (?_)
  refine rv rfl rfl (?_)
  refine rn ?_
  refine then_normal ?_
  refine awp_seq ?_
  refine awp_region ?_
  refine rc1 rfl rfl rfl up3_c (?_)
  refine rv rfl rfl (?_)
  refine rn ?_
  refine then_normal ?_
  refine awp_seq ?_
  refine awp_seq ?_
  refine awp_region ?_
  refine rv rfl rfl (?_)
  refine rv rfl rfl (?_)
  refine rv rfl rfl (?_)
  refine rn ?_
  refine then_normal ?_
  refine cs_ rfl (fun hc => ?_) (fun hc => ?_)
  · first
    | (cases hc; done)
    | (
      refine awp_seq ?_
      refine awp_region ?_
      refine rv rfl rfl (?_)
      refine rv rfl rfl (?_)
      refine rn ?_
      refine then_normal ?_
      refine awp_ret ?_
      repeat (first | refine then_ret ?_ | refine inBlock_ret ?_)
      refine rr rfl rfl ?_
      first | rfl | exact (beq_no (by assumption)).elim | exact (ieq_no (by assumption)).elim | (simp; done) | (simp at hc; done) | (simp at hg; done) | trace_state)
  · first
    | (cases hc; done)
    | (
      refine awp_skip ?_
      refine then_normal ?_
      refine awp_seq ?_
      (rcases hs : simpB l with _ | _) <;> (
      refine awp_region ?_
      refine rv rfl rfl (?_)
      refine rc1 rfl rfl rfl (rsimple_cb hl hs) (?_)
      refine rv rfl rfl (?_)
      refine rn ?_
      refine then_normal ?_
      refine awp_seq ?_
      refine awp_seq ?_
      refine awp_region ?_
      refine rv rfl rfl (?_)
      refine rc1 rfl rfl rfl (simple_cb hl hs) (?_)
      refine rv rfl rfl (?_)
      refine rv rfl rfl (?_)
      refine rn ?_
      refine then_normal ?_
      refine cs_ rfl (fun hc => ?_) (fun hc => ?_)
      · first
        | (cases hc; done)
        | (
          refine awp_seq ?_
          refine awp_region ?_
          refine rv rfl rfl (?_)
          refine rn ?_
          refine then_normal ?_
          refine awp_ret ?_
          repeat (first | refine then_ret ?_ | refine inBlock_ret ?_)
          refine rr rfl rfl ?_
          first | rfl | exact (beq_no (by assumption)).elim | exact (ieq_no (by assumption)).elim | (simp; done) | (simp at hc; done) | (simp at hg; done) | trace_state)
      · first
        | (cases hc; done)
        | (
          refine awp_skip ?_
          refine then_normal ?_
          refine awp_seq ?_
          refine awp_region ?_
          refine rv rfl rfl (?_)
          refine rc1 rfl rfl rfl rmayP_c (?_)
          refine rv rfl rfl (?_)
          refine rn ?_
          refine then_normal ?_
          refine awp_seq ?_
          refine awp_seq ?_
          refine awp_region ?_
          refine rv rfl rfl (?_)
          refine rv rfl rfl (?_)
          refine rv rfl rfl (?_)
          (first | refine gy rfl rfl rfl (rv rfl rfl (?_)) | refine gn rfl rfl rfl rfl rfl ?_ | refine gu rfl rfl rfl rfl ?_ | refine gs rfl rfl rfl rfl rfl (fun hg => rv rfl rfl (?_)) (fun hg => ?_)) <;> (
          (first | refine gy rfl rfl rfl (rv rfl rfl (?_)) | refine gn rfl rfl rfl rfl rfl ?_ | refine gu rfl rfl rfl rfl ?_ | refine gs rfl rfl rfl rfl rfl (fun hg => rv rfl rfl (?_)) (fun hg => ?_)) <;> (
          refine rv rfl rfl (?_)
          refine rn ?_
          refine then_normal ?_
          refine cs_ rfl (fun hc => ?_) (fun hc => ?_)
          · first
            | (cases hc; done)
            | (
              refine awp_seq ?_
              refine awp_region ?_
              refine rv rfl rfl (?_)
              refine rv rfl rfl (?_)
              refine rn ?_
              refine then_normal ?_
              refine awp_ret ?_
              repeat (first | refine then_ret ?_ | refine inBlock_ret ?_)
              refine rr rfl rfl ?_
              first | rfl | exact (beq_no (by assumption)).elim | exact (ieq_no (by assumption)).elim | (simp; done) | (simp at hc; done) | (simp at hg; done) | trace_state)
          · first
            | (cases hc; done)
            | (
              refine awp_skip ?_
              refine then_normal ?_
              refine awp_seq ?_
              (have hS := (simpB_iff l).1 hs; have hmp : my p = true := (by simpa [my] using (by assumption : (!mayP p.1 p.2) = false))) <;> (
              refine awp_dp (m := 17) Try.mix (by kernel_rfl) (by kernel_rfl) (by kernel_rfl) (by kernel_rfl) (by kernel_rfl) (by kernel_rfl) (by kernel_rfl) ?_
              refine dv rfl rfl (fun _ => rfl) ?_
              refine dv rfl rfl (fun _ => rfl) ?_
              (first | refine dv rfl rfl (fun _ => rfl) ?_ | refine dno rfl rfl ?_ | (refine ds rfl rfl (fun hg => ?_) (fun hg => ?_) <;> first | refine dv rfl rfl (fun _ => rfl) ?_ | refine dno rfl rfl ?_)) <;> (
              (first | refine dv rfl rfl (fun _ => rfl) ?_ | refine dno rfl rfl ?_ | (refine ds rfl rfl (fun hg => ?_) (fun hg => ?_) <;> first | refine dv rfl rfl (fun _ => rfl) ?_ | refine dno rfl rfl ?_)) <;> (
              (first | refine dc rfl rfl rfl rfl (fun _ => rfl) (fun _ => (in_c hl)) ?_ | refine dno rfl rfl ?_ | (refine ds rfl rfl (fun hg => ?_) (fun hg => ?_) <;> first | refine dc rfl rfl rfl rfl (fun _ => rfl) (fun _ => (in_c hl)) ?_ | refine dno rfl rfl ?_)) <;> (
              (first | refine dv rfl rfl (fun _ => rfl) ?_ | refine dno rfl rfl ?_ | (refine ds rfl rfl (fun hg => ?_) (fun hg => ?_) <;> first | refine dv rfl rfl (fun _ => rfl) ?_ | refine dno rfl rfl ?_)) <;> (
              (first | refine dv rfl rfl (fun _ => rfl) ?_ | refine dno rfl rfl ?_ | (refine ds rfl rfl (fun hg => ?_) (fun hg => ?_) <;> first | refine dv rfl rfl (fun _ => rfl) ?_ | refine dno rfl rfl ?_)) <;> (
              (first | refine dc rfl rfl rfl rfl (fun _ => rfl) (fun _ => (rinside_c hl hS.may hmp)) ?_ | refine dno rfl rfl ?_ | (refine ds rfl rfl (fun hg => ?_) (fun hg => ?_) <;> first | refine dc rfl rfl rfl rfl (fun _ => rfl) (fun _ => (rinside_c hl hS.may hmp)) ?_ | refine dno rfl rfl ?_)) <;> (
              (first | refine dv rfl rfl (fun _ => rfl) ?_ | refine dno rfl rfl ?_ | (refine ds rfl rfl (fun hg => ?_) (fun hg => ?_) <;> first | refine dv rfl rfl (fun _ => rfl) ?_ | refine dno rfl rfl ?_)) <;> (
              refine dv rfl rfl (fun _ => rfl) ?_
              refine dv rfl rfl (fun _ => rfl) ?_
              (first | refine dv rfl rfl (fun _ => rfl) ?_ | refine dno rfl rfl ?_ | (refine ds rfl rfl (fun hg => ?_) (fun hg => ?_) <;> first | refine dv rfl rfl (fun _ => rfl) ?_ | refine dno rfl rfl ?_)) <;> (
              (first | refine dc rfl rfl rfl rfl (fun _ => rfl) (fun _ => (twice_c hl)) ?_ | refine dno rfl rfl ?_ | (refine ds rfl rfl (fun hg => ?_) (fun hg => ?_) <;> first | refine dc rfl rfl rfl rfl (fun _ => rfl) (fun _ => (twice_c hl)) ?_ | refine dno rfl rfl ?_)) <;> (
              (first | refine dv rfl rfl (fun _ => rfl) ?_ | refine dno rfl rfl ?_ | (refine ds rfl rfl (fun hg => ?_) (fun hg => ?_) <;> first | refine dv rfl rfl (fun _ => rfl) ?_ | refine dno rfl rfl ?_)) <;> (
              (first | refine dc rfl rfl rfl rfl (fun _ => rfl) (fun _ => (rtwice_c hl)) ?_ | refine dno rfl rfl ?_ | (refine ds rfl rfl (fun hg => ?_) (fun hg => ?_) <;> first | refine dc rfl rfl rfl rfl (fun _ => rfl) (fun _ => (rtwice_c hl)) ?_ | refine dno rfl rfl ?_)) <;> (
              (first | refine dv rfl rfl (fun _ => rfl) ?_ | refine dno rfl rfl ?_ | (refine ds rfl rfl (fun hg => ?_) (fun hg => ?_) <;> first | refine dv rfl rfl (fun _ => rfl) ?_ | refine dno rfl rfl ?_)) <;> (
              refine dv rfl rfl (fun _ => rfl) ?_
              refine dn ?_
              refine rv rfl rfl (?_)
              refine rn ?_
              refine then_normal ?_
              refine awp_ret ?_
              repeat (first | refine then_ret ?_ | refine inBlock_ret ?_)
              refine rr rfl rfl ?_
              first | rfl | exact (beq_no (by assumption)).elim | exact (ieq_no (by assumption)).elim | (simp; done) | (simp at hc; done) | (simp at hg; done) | trace_state)))))))))))))))))))
end

section
attribute [local irreducible] awp aops DP PCall ACall Decidable.decide Nat.mod onV turnV inE simpB mayP addB fineI twA area2
/-- `plover/ploverlaw03.PolyMoves` -/
theorem PolyMoves_p {l : List Pt} {d : Pt} (hl : l.length ≤ maxLen) : PCall Try.prog 4 [.sl (rows l), .agg [.int .i64 (d).1, .int .i64 (d).2]] (· = .bool (true)) := by
  refine pcall_body Try.func4 rfl (by kernel_rfl) (by rfl) ?_
  refine awp_seq ?_
  refine awp_region ?_
  refine rb rfl rfl (?_)
  refine rv rfl rfl (?_)
  refine rn ?_
  refine then_normal ?_
  refine awp_seq ?_
  refine awp_region ?_
  refine rc1 rfl rfl rfl up3_c (?_)
  refine rv rfl rfl (?_)
  refine rn ?_
  refine then_normal ?_
  refine awp_seq ?_
  refine awp_seq ?_
  refine awp_region ?_
  refine rv rfl rfl (?_)
  refine rv rfl rfl (?_)
  refine rv rfl rfl (?_)
  refine rn ?_
  refine then_normal ?_
  refine cs_ rfl (fun hc => ?_) (fun hc => ?_)
  · first
    | (cases hc; done)
    | (
      refine awp_seq ?_
      refine awp_region ?_
      refine rv rfl rfl (?_)
      refine rv rfl rfl (?_)
      refine rn ?_
      refine then_normal ?_
      refine awp_ret ?_
      repeat (first | refine then_ret ?_ | refine inBlock_ret ?_)
      refine rr rfl rfl ?_
      first | rfl | (simp; done) | (simp at hc; done) | (simp at hg; done) | trace_state)
  · first
    | (cases hc; done)
    | (
      refine awp_skip ?_
      refine then_normal ?_
      refine awp_seq ?_
      (rcases hs : simpB l with _ | _ <;> rcases ha : l.all (addA d) with _ | _) <;> (
      refine awp_region ?_
      refine rv rfl rfl (?_)
      refine rv rfl rfl (?_)
      refine rc1 rfl rfl rfl (move_cb hl hs ha) (?_)
      refine rv rfl rfl (?_)
      refine rv rfl rfl (?_)
      refine rv rfl rfl (?_)
      refine rv rfl rfl (?_)
      refine rv rfl rfl (?_)
      refine rn ?_
      refine then_normal ?_
      refine awp_seq ?_
      refine awp_region ?_
      refine rv rfl rfl (?_)
      refine rc1 rfl rfl rfl (rsimple_cb hl hs) (?_)
      refine rv rfl rfl (?_)
      refine rn ?_
      refine then_normal ?_
      refine awp_seq ?_
      refine awp_region ?_
      refine rv rfl rfl (?_)
      refine rc1 rfl rfl rfl rmayP_c (?_)
      refine rv rfl rfl (?_)
      refine rn ?_
      refine then_normal ?_
      refine awp_seq ?_
      refine awp_seq ?_
      refine awp_region ?_
      refine rv rfl rfl (?_)
      refine rv rfl rfl (?_)
      refine rn ?_
      refine then_normal ?_
      refine cs_ rfl (fun hc => ?_) (fun hc => ?_)
      · first
        | (cases hc; done)
        | (
          refine awp_seq ?_
          refine awp_region ?_
          refine rv rfl rfl (?_)
          refine rv rfl rfl (?_)
          (first | refine gy rfl rfl rfl (rv rfl rfl (?_)) | refine gn rfl rfl rfl rfl rfl ?_ | refine gu rfl rfl rfl rfl ?_ | refine gs rfl rfl rfl rfl rfl (fun hg => rv rfl rfl (?_)) (fun hg => ?_)) <;> (
          (first | refine gy rfl rfl rfl (rv rfl rfl (?_)) | refine gn rfl rfl rfl rfl rfl ?_ | refine gu rfl rfl rfl rfl ?_ | refine gs rfl rfl rfl rfl rfl (fun hg => rv rfl rfl (?_)) (fun hg => ?_)) <;> (
          (first | refine gy rfl rfl rfl (rv rfl rfl (?_)) | refine gn rfl rfl rfl rfl rfl ?_ | refine gu rfl rfl rfl rfl ?_ | refine gs rfl rfl rfl rfl rfl (fun hg => rv rfl rfl (?_)) (fun hg => ?_)) <;> (
          refine rv rfl rfl (?_)
          refine rv rfl rfl (?_)
          (first | refine gy rfl rfl rfl (rv rfl rfl (?_)) | refine gn rfl rfl rfl rfl rfl ?_ | refine gu rfl rfl rfl rfl ?_ | refine gs rfl rfl rfl rfl rfl (fun hg => rv rfl rfl (?_)) (fun hg => ?_)) <;> (
          (first | refine gy rfl rfl rfl (rv rfl rfl (?_)) | refine gn rfl rfl rfl rfl rfl ?_ | refine gu rfl rfl rfl rfl ?_ | refine gs rfl rfl rfl rfl rfl (fun hg => rv rfl rfl (?_)) (fun hg => ?_)) <;> (
          (first | refine gy rfl rfl rfl (rv rfl rfl (?_)) | refine gn rfl rfl rfl rfl rfl ?_ | refine gu rfl rfl rfl rfl ?_ | refine gs rfl rfl rfl rfl rfl (fun hg => rv rfl rfl (?_)) (fun hg => ?_)) <;> (
          refine rv rfl rfl (?_)
          refine rv rfl rfl (?_)
          refine rn ?_
          refine then_normal ?_
          refine awp_ret ?_
          repeat (first | refine then_ret ?_ | refine inBlock_ret ?_)
          refine rr rfl rfl ?_
          first | rfl | (simp; done) | (simp at hc; done) | (simp at hg; done) | trace_state)))))))
      · first
        | (cases hc; done)
        | (
          refine awp_skip ?_
          refine then_normal ?_
          refine awp_seq ?_
          refine awp_seq ?_
          refine awp_region ?_
          refine rv rfl rfl (?_)
          refine rn ?_
          refine then_normal ?_
          refine awp_block ?_
          refine awp_loop (ι := Nat) (fun i => ⟨[(0, .sl (rows l)), (3, .ptr 0 0), (4, .bool false), (5, .bool true), (6, (by first | (guard_hyp ha : l.all (addA d) = true; exact AV.sl (rows (l.map (mv d)))) | exact AV.sl [])), (7, (by first | (guard_hyp ha : l.all (addA d) = true; exact AV.nilI) | exact AV.iface 35 (AV.int .i64 11))), (8, .bool true), (9, .bool (fineI l d i)), (10, .int .i64 (i : Int))], [(0, 0, .int .i64 d.1), (0, 1, .int .i64 d.2)], [], 1⟩) (fun i => i ≤ l.length) (fun i => l.length - i) (0) (Nat.zero_le _) ?_ (fun _ => Nat.zero_le _) (fun i hi => ?_)
          · refine ⟨Nat.le_of_ble_eq_true rfl, ?_, ?_, ?_⟩
            · refine ⟨⟨?_, rfl⟩, ?_⟩
              · first | rfl | ((first | refine ei ?_ | refine eh ?_ | refine eb ?_ | refine ehb ?_ | skip); exact fine_0 l d)
              refine ⟨⟨?_, rfl⟩, ?_⟩
              · first | rfl | ((first | refine ei ?_ | refine eh ?_ | refine eb ?_ | refine ehb ?_ | skip); exact fine_0 l d)
              refine ⟨⟨?_, rfl⟩, ?_⟩
              · first | rfl | ((first | refine ei ?_ | refine eh ?_ | refine eb ?_ | refine ehb ?_ | skip); exact fine_0 l d)
              refine ⟨⟨?_, rfl⟩, ?_⟩
              · first | rfl | ((first | refine ei ?_ | refine eh ?_ | refine eb ?_ | refine ehb ?_ | skip); exact fine_0 l d)
              refine ⟨⟨?_, rfl⟩, ?_⟩
              · first | rfl | ((first | refine ei ?_ | refine eh ?_ | refine eb ?_ | refine ehb ?_ | skip); exact fine_0 l d)
              refine ⟨⟨?_, rfl⟩, ?_⟩
              · first | rfl | ((first | refine ei ?_ | refine eh ?_ | refine eb ?_ | refine ehb ?_ | skip); exact fine_0 l d)
              refine ⟨⟨?_, rfl⟩, ?_⟩
              · first | rfl | ((first | refine ei ?_ | refine eh ?_ | refine eb ?_ | refine ehb ?_ | skip); exact fine_0 l d)
              refine ⟨⟨?_, rfl⟩, ?_⟩
              · first | rfl | ((first | refine ei ?_ | refine eh ?_ | refine eb ?_ | refine ehb ?_ | skip); exact fine_0 l d)
              refine ⟨⟨?_, rfl⟩, ?_⟩
              · first | rfl | ((first | refine ei ?_ | refine eh ?_ | refine eb ?_ | refine ehb ?_ | skip); exact fine_0 l d)
              exact trivial
            · refine ⟨⟨?_, rfl, rfl⟩, ?_⟩
              · first | rfl | ((first | refine ei ?_ | refine eh ?_ | refine eb ?_ | refine ehb ?_ | skip); exact fine_0 l d)
              refine ⟨⟨?_, rfl, rfl⟩, ?_⟩
              · first | rfl | ((first | refine ei ?_ | refine eh ?_ | refine eb ?_ | refine ehb ?_ | skip); exact fine_0 l d)
              exact trivial
            · exact trivial
          refine awp_seq ?_
          refine awp_seq ?_
          refine awp_region ?_
          refine rv rfl rfl (?_)
          refine rv rfl rfl (?_)
          refine rv rfl rfl (?_)
          refine rv rfl rfl (?_)
          refine rn ?_
          refine then_normal ?_
          refine cs_ rfl (fun hc => ?_) (fun hc => ?_)
          · first
            | (cases hc; done)
            | (
              refine awp_skip ?_
              refine then_normal ?_
              refine awp_seq ?_
              refine awp_block ?_
              refine awp_seq ?_
              (have hlt := lt_len hc) <;> (
              refine awp_dp (m := 18) Try.mix (by kernel_rfl) (by kernel_rfl) (by kernel_rfl) (by kernel_rfl) (by kernel_rfl) (by kernel_rfl) (by kernel_rfl) ?_
              refine dv rfl rfl (fun _ => rfl) ?_
              refine dv rfl rfl (fun _ => rfl) ?_
              refine di rfl rfl rfl rfl rfl (fun _ => rfl) rfl (Int.natCast_nonneg _) (rows_i hlt) (rows_wide _) ?_
              refine dv rfl rfl (fun _ => rfl) ?_
              refine dv rfl rfl (fun _ => rfl) ?_
              refine dv rfl rfl (fun _ => rfl) ?_
              refine dv rfl rfl (fun _ => rfl) ?_
              refine dv rfl rfl (fun _ => rfl) ?_
              refine dv rfl rfl (fun _ => rfl) ?_
              refine dv rfl rfl (fun _ => rfl) ?_
              refine di rfl rfl rfl rfl rfl (fun _ => rfl) rfl (Int.natCast_nonneg _) (rows_i hlt) (rows_wide _) ?_
              refine dv rfl rfl (fun _ => rfl) ?_
              refine dv rfl rfl (fun _ => rfl) ?_
              refine dv rfl rfl (fun _ => rfl) ?_
              refine dv rfl rfl (fun _ => rfl) ?_
              refine dv rfl rfl (fun _ => rfl) ?_
              refine dv rfl rfl (fun _ => rfl) ?_
              refine dc rfl rfl rfl rfl (fun _ => rfl) (fun _ => rmayP_c) ?_
              refine dn ?_
              refine rv rfl rfl (?_)
              refine rn ?_
              refine then_normal ?_
              refine awp_region ?_
              refine rv rfl rfl (?_)
              refine rv rfl rfl (?_)
              (first | refine gy rfl rfl rfl (rv rfl rfl (?_)) | refine gn rfl rfl rfl rfl rfl ?_ | refine gu rfl rfl rfl rfl ?_ | refine gs rfl rfl rfl rfl rfl (fun hg => rv rfl rfl (?_)) (fun hg => ?_)) <;> (
              refine rv rfl rfl (?_)
              refine rv rfl rfl (?_)
              refine rn ?_
              refine inBlock_normal ?_
              refine then_normal ?_
              refine awp_region ?_
              refine rv rfl rfl (?_)
              refine rv rfl rfl (?_)
              refine rv rfl rfl (?_)
              refine rn ?_
              refine then_normal ?_
              refine ⟨i + 1, hlt, by omega, ?_⟩
              refine ⟨Nat.le_of_ble_eq_true rfl, ?_, ?_, ?_⟩
              · refine ⟨⟨?_, rfl⟩, ?_⟩
                · first | rfl | ((first | refine ei ?_ | refine eh ?_ | refine eb ?_ | refine ehb ?_ | skip); first | exact W_succ hlt hl | exact fine_1 hlt (by assumption) | exact fine_2 hlt (by assumption))
                refine ⟨⟨?_, rfl⟩, ?_⟩
                · first | rfl | ((first | refine ei ?_ | refine eh ?_ | refine eb ?_ | refine ehb ?_ | skip); first | exact W_succ hlt hl | exact fine_1 hlt (by assumption) | exact fine_2 hlt (by assumption))
                refine ⟨⟨?_, rfl⟩, ?_⟩
                · first | rfl | ((first | refine ei ?_ | refine eh ?_ | refine eb ?_ | refine ehb ?_ | skip); first | exact W_succ hlt hl | exact fine_1 hlt (by assumption) | exact fine_2 hlt (by assumption))
                refine ⟨⟨?_, rfl⟩, ?_⟩
                · first | rfl | ((first | refine ei ?_ | refine eh ?_ | refine eb ?_ | refine ehb ?_ | skip); first | exact W_succ hlt hl | exact fine_1 hlt (by assumption) | exact fine_2 hlt (by assumption))
                refine ⟨⟨?_, rfl⟩, ?_⟩
                · first | rfl | ((first | refine ei ?_ | refine eh ?_ | refine eb ?_ | refine ehb ?_ | skip); first | exact W_succ hlt hl | exact fine_1 hlt (by assumption) | exact fine_2 hlt (by assumption))
                refine ⟨⟨?_, rfl⟩, ?_⟩
                · first | rfl | ((first | refine ei ?_ | refine eh ?_ | refine eb ?_ | refine ehb ?_ | skip); first | exact W_succ hlt hl | exact fine_1 hlt (by assumption) | exact fine_2 hlt (by assumption))
                refine ⟨⟨?_, rfl⟩, ?_⟩
                · first | rfl | ((first | refine ei ?_ | refine eh ?_ | refine eb ?_ | refine ehb ?_ | skip); first | exact W_succ hlt hl | exact fine_1 hlt (by assumption) | exact fine_2 hlt (by assumption))
                refine ⟨⟨?_, rfl⟩, ?_⟩
                · first | rfl | ((first | refine ei ?_ | refine eh ?_ | refine eb ?_ | refine ehb ?_ | skip); first | exact W_succ hlt hl | exact fine_1 hlt (by assumption) | exact fine_2 hlt (by assumption))
                refine ⟨⟨?_, rfl⟩, ?_⟩
                · first | rfl | ((first | refine ei ?_ | refine eh ?_ | refine eb ?_ | refine ehb ?_ | skip); first | exact W_succ hlt hl | exact fine_1 hlt (by assumption) | exact fine_2 hlt (by assumption))
                exact trivial
              · refine ⟨⟨?_, rfl, rfl⟩, ?_⟩
                · first | rfl | ((first | refine ei ?_ | refine eh ?_ | refine eb ?_ | refine ehb ?_ | skip); first | exact W_succ hlt hl | exact fine_1 hlt (by assumption) | exact fine_2 hlt (by assumption))
                refine ⟨⟨?_, rfl, rfl⟩, ?_⟩
                · first | rfl | ((first | refine ei ?_ | refine eh ?_ | refine eb ?_ | refine ehb ?_ | skip); first | exact W_succ hlt hl | exact fine_1 hlt (by assumption) | exact fine_2 hlt (by assumption))
                exact trivial
              · exact trivial)))
          · first
            | (cases hc; done)
            | (
              refine awp_exit ?_
              repeat (first | refine then_exit ?_ | refine inBlock_other rfl ?_)
              refine inBlock_exit ?_
              refine then_normal ?_
              refine awp_seq ?_
              refine awp_seq ?_
              (have hf := fine_end hs ha hi (not_lt_len hc); rw [hf]) <;> (
              refine awp_region ?_
              refine rv rfl rfl (?_)
              refine rv rfl rfl (?_)
              refine rn ?_
              refine then_normal ?_
              refine cs_ rfl (fun hc => ?_) (fun hc => ?_)
              · first
                | (cases hc; done)
                | (
                  refine awp_seq ?_
                  refine awp_region ?_
                  refine rv rfl rfl (?_)
                  refine rv rfl rfl (?_)
                  (first | refine gy rfl rfl rfl (rv rfl rfl (?_)) | refine gn rfl rfl rfl rfl rfl ?_ | refine gu rfl rfl rfl rfl ?_ | refine gs rfl rfl rfl rfl rfl (fun hg => rv rfl rfl (?_)) (fun hg => ?_)) <;> (
                  (first | refine gy rfl rfl rfl (rc1 rfl rfl rfl (code_n (k := 11) (by decide) (by decide)) (?_)) | refine gn rfl rfl rfl rfl rfl ?_ | refine gu rfl rfl rfl rfl ?_ | refine gs rfl rfl rfl rfl rfl (fun hg => rc1 rfl rfl rfl (code_n (k := 11) (by decide) (by decide)) (?_)) (fun hg => ?_)) <;> (
                  (first | refine gy rfl rfl rfl (rv rfl rfl (?_)) | refine gn rfl rfl rfl rfl rfl ?_ | refine gu rfl rfl rfl rfl ?_ | refine gs rfl rfl rfl rfl rfl (fun hg => rv rfl rfl (?_)) (fun hg => ?_)) <;> (
                  refine rv rfl rfl (?_)
                  refine rv rfl rfl (?_)
                  (first | refine gy rfl rfl rfl (rv rfl rfl (?_)) | refine gn rfl rfl rfl rfl rfl ?_ | refine gu rfl rfl rfl rfl ?_ | refine gs rfl rfl rfl rfl rfl (fun hg => rv rfl rfl (?_)) (fun hg => ?_)) <;> (
                  (first | refine gy rfl rfl rfl (rv rfl rfl (?_)) | refine gn rfl rfl rfl rfl rfl ?_ | refine gu rfl rfl rfl rfl ?_ | refine gs rfl rfl rfl rfl rfl (fun hg => rv rfl rfl (?_)) (fun hg => ?_)) <;> (
                  (first | refine gy rfl rfl rfl (rv rfl rfl (?_)) | refine gn rfl rfl rfl rfl rfl ?_ | refine gu rfl rfl rfl rfl ?_ | refine gs rfl rfl rfl rfl rfl (fun hg => rv rfl rfl (?_)) (fun hg => ?_)) <;> (
                  refine rv rfl rfl (?_)
                  refine rv rfl rfl (?_)
                  refine rn ?_
                  refine then_normal ?_
                  refine awp_ret ?_
                  repeat (first | refine then_ret ?_ | refine inBlock_ret ?_)
                  refine rr rfl rfl ?_
                  first | rfl | (simp; done) | (simp at hc; done) | (simp at hg; done) | trace_state)))))))
              · first
                | (cases hc; done)
                | (
                  refine awp_skip ?_
                  refine then_normal ?_
                  refine awp_seq ?_
                  refine awp_seq ?_
                  refine awp_region ?_
                  refine rv rfl rfl (?_)
                  refine rv rfl rfl (?_)
                  refine rv rfl rfl (?_)
                  (first | refine gy rfl rfl rfl (rv rfl rfl (?_)) | refine gn rfl rfl rfl rfl rfl ?_ | refine gu rfl rfl rfl rfl ?_ | refine gs rfl rfl rfl rfl rfl (fun hg => rv rfl rfl (?_)) (fun hg => ?_)) <;> (
                  (first | refine gy rfl rfl rfl (rv rfl rfl (?_)) | refine gn rfl rfl rfl rfl rfl ?_ | refine gu rfl rfl rfl rfl ?_ | refine gs rfl rfl rfl rfl rfl (fun hg => rv rfl rfl (?_)) (fun hg => ?_)) <;> (
                  (first | refine gy rfl rfl rfl (rv rfl rfl (?_)) | refine gn rfl rfl rfl rfl rfl ?_ | refine gu rfl rfl rfl rfl ?_ | refine gs rfl rfl rfl rfl rfl (fun hg => rv rfl rfl (?_)) (fun hg => ?_)) <;> (
                  (first | refine gy rfl rfl rfl (rv rfl rfl (?_)) | refine gn rfl rfl rfl rfl rfl ?_ | refine gu rfl rfl rfl rfl ?_ | refine gs rfl rfl rfl rfl rfl (fun hg => rv rfl rfl (?_)) (fun hg => ?_)) <;> (
                  (first | refine gy rfl rfl rfl (rv rfl rfl (?_)) | refine gn rfl rfl rfl rfl rfl ?_ | refine gu rfl rfl rfl rfl ?_ | refine gs rfl rfl rfl rfl rfl (fun hg => rv rfl rfl (?_)) (fun hg => ?_)) <;> (
                  refine rv rfl rfl (?_)
                  refine rn ?_
                  refine then_normal ?_
                  refine cs_ rfl (fun hc => ?_) (fun hc => ?_)
                  · first
                    | (cases hc; done)
                    | (
                      refine awp_seq ?_
                      exfalso
                      first | (cases hc; done) | exact ne_3 (by assumption))
                  · first
                    | (cases hc; done)
                    | (
                      refine awp_skip ?_
                      refine then_normal ?_
                      refine awp_seq ?_
                      refine awp_seq ?_
                      refine awp_region ?_
                      refine rv rfl rfl (?_)
                      refine rn ?_
                      refine then_normal ?_
                      refine awp_block ?_
                      refine awp_loop (ι := Nat) (fun i => ⟨[(0, .sl (rows l)), (3, .ptr 0 0), (4, .bool false), (5, .bool true), (6, .sl (rows (l.map (mv d)))), (12, .int .i64 (i : Int))], [(0, 0, .int .i64 d.1), (0, 1, .int .i64 d.2)], [], 1⟩) (fun i => i ≤ l.length) (fun i => l.length - i) (0) (Nat.zero_le _) ?_ (fun _ => Nat.zero_le _) (fun i hi => ?_)
                      · refine ⟨Nat.le_of_ble_eq_true rfl, ?_, ?_, ?_⟩
                        · refine ⟨⟨?_, rfl⟩, ?_⟩
                          · first | rfl | ((first | refine ei ?_ | refine eh ?_ | refine eb ?_ | refine ehb ?_ | skip); exact W_succ hlt hl)
                          refine ⟨⟨?_, rfl⟩, ?_⟩
                          · first | rfl | ((first | refine ei ?_ | refine eh ?_ | refine eb ?_ | refine ehb ?_ | skip); exact W_succ hlt hl)
                          refine ⟨⟨?_, rfl⟩, ?_⟩
                          · first | rfl | ((first | refine ei ?_ | refine eh ?_ | refine eb ?_ | refine ehb ?_ | skip); exact W_succ hlt hl)
                          refine ⟨⟨?_, rfl⟩, ?_⟩
                          · first | rfl | ((first | refine ei ?_ | refine eh ?_ | refine eb ?_ | refine ehb ?_ | skip); exact W_succ hlt hl)
                          refine ⟨⟨?_, rfl⟩, ?_⟩
                          · first | rfl | ((first | refine ei ?_ | refine eh ?_ | refine eb ?_ | refine ehb ?_ | skip); exact W_succ hlt hl)
                          refine ⟨⟨?_, rfl⟩, ?_⟩
                          · first | rfl | ((first | refine ei ?_ | refine eh ?_ | refine eb ?_ | refine ehb ?_ | skip); exact W_succ hlt hl)
                          exact trivial
                        · refine ⟨⟨?_, rfl, rfl⟩, ?_⟩
                          · first | rfl | ((first | refine ei ?_ | refine eh ?_ | refine eb ?_ | refine ehb ?_ | skip); exact W_succ hlt hl)
                          refine ⟨⟨?_, rfl, rfl⟩, ?_⟩
                          · first | rfl | ((first | refine ei ?_ | refine eh ?_ | refine eb ?_ | refine ehb ?_ | skip); exact W_succ hlt hl)
                          exact trivial
                        · exact trivial
                      refine awp_seq ?_
                      refine awp_seq ?_
                      refine awp_region ?_
                      refine rv rfl rfl (?_)
                      refine rv rfl rfl (?_)
                      refine rv rfl rfl (?_)
                      refine rv rfl rfl (?_)
                      refine rn ?_
                      refine then_normal ?_
                      refine cs_ rfl (fun hc => ?_) (fun hc => ?_)
                      · first
                        | (cases hc; done)
                        | (
                          refine awp_skip ?_
                          refine then_normal ?_
                          refine awp_seq ?_
                          refine awp_block ?_
                          refine awp_seq ?_
                          (have hlt := lt_len hc) <;> (
                          refine awp_dp (m := 30) Try.mix (by kernel_rfl) (by kernel_rfl) (by kernel_rfl) (by kernel_rfl) (by kernel_rfl) (by kernel_rfl) (by kernel_rfl) ?_
                          refine dv rfl rfl (fun _ => rfl) ?_
                          refine dv rfl rfl (fun _ => rfl) ?_
                          refine di rfl rfl rfl rfl rfl (fun _ => rfl) rfl (Int.natCast_nonneg _) (mv_get hlt) (rows_wide _) ?_
                          refine dv rfl rfl (fun _ => rfl) ?_
                          refine dv rfl rfl (fun _ => rfl) ?_
                          refine dv rfl rfl (fun _ => rfl) ?_
                          refine dv rfl rfl (fun _ => rfl) ?_
                          refine di rfl rfl rfl rfl rfl (fun _ => rfl) rfl (Int.natCast_nonneg _) (rows_i hlt) (rows_wide _) ?_
                          refine dv rfl rfl (fun _ => rfl) ?_
                          refine dv rfl rfl (fun _ => rfl) ?_
                          refine dv rfl rfl (fun _ => rfl) ?_
                          refine dv rfl rfl (fun _ => rfl) ?_
                          refine dv rfl rfl (fun _ => rfl) ?_
                          refine dv rfl rfl (fun _ => rfl) ?_
                          refine dv rfl rfl (fun _ => rfl) ?_
                          (first | refine dv rfl rfl (fun _ => rfl) ?_ | refine dno rfl rfl ?_ | (refine ds rfl rfl (fun hg => ?_) (fun hg => ?_) <;> first | refine dv rfl rfl (fun _ => rfl) ?_ | refine dno rfl rfl ?_)) <;> (
                          (first | refine dv rfl rfl (fun _ => rfl) ?_ | refine dno rfl rfl ?_ | (refine ds rfl rfl (fun hg => ?_) (fun hg => ?_) <;> first | refine dv rfl rfl (fun _ => rfl) ?_ | refine dno rfl rfl ?_)) <;> (
                          (first | refine di rfl rfl rfl rfl rfl (fun _ => rfl) rfl (Int.natCast_nonneg _) (mv_get hlt) (rows_wide _) ?_ | refine dno rfl rfl ?_ | (refine ds rfl rfl (fun hg => ?_) (fun hg => ?_) <;> first | refine di rfl rfl rfl rfl rfl (fun _ => rfl) rfl (Int.natCast_nonneg _) (mv_get hlt) (rows_wide _) ?_ | refine dno rfl rfl ?_)) <;> (
                          (first | refine dv rfl rfl (fun _ => rfl) ?_ | refine dno rfl rfl ?_ | (refine ds rfl rfl (fun hg => ?_) (fun hg => ?_) <;> first | refine dv rfl rfl (fun _ => rfl) ?_ | refine dno rfl rfl ?_)) <;> (
                          (first | refine dv rfl rfl (fun _ => rfl) ?_ | refine dno rfl rfl ?_ | (refine ds rfl rfl (fun hg => ?_) (fun hg => ?_) <;> first | refine dv rfl rfl (fun _ => rfl) ?_ | refine dno rfl rfl ?_)) <;> (
                          (first | refine dv rfl rfl (fun _ => rfl) ?_ | refine dno rfl rfl ?_ | (refine ds rfl rfl (fun hg => ?_) (fun hg => ?_) <;> first | refine dv rfl rfl (fun _ => rfl) ?_ | refine dno rfl rfl ?_)) <;> (
                          (first | refine dv rfl rfl (fun _ => rfl) ?_ | refine dno rfl rfl ?_ | (refine ds rfl rfl (fun hg => ?_) (fun hg => ?_) <;> first | refine dv rfl rfl (fun _ => rfl) ?_ | refine dno rfl rfl ?_)) <;> (
                          (first | refine di rfl rfl rfl rfl rfl (fun _ => rfl) rfl (Int.natCast_nonneg _) (rows_i hlt) (rows_wide _) ?_ | refine dno rfl rfl ?_ | (refine ds rfl rfl (fun hg => ?_) (fun hg => ?_) <;> first | refine di rfl rfl rfl rfl rfl (fun _ => rfl) rfl (Int.natCast_nonneg _) (rows_i hlt) (rows_wide _) ?_ | refine dno rfl rfl ?_)) <;> (
                          (first | refine dv rfl rfl (fun _ => rfl) ?_ | refine dno rfl rfl ?_ | (refine ds rfl rfl (fun hg => ?_) (fun hg => ?_) <;> first | refine dv rfl rfl (fun _ => rfl) ?_ | refine dno rfl rfl ?_)) <;> (
                          (first | refine dv rfl rfl (fun _ => rfl) ?_ | refine dno rfl rfl ?_ | (refine ds rfl rfl (fun hg => ?_) (fun hg => ?_) <;> first | refine dv rfl rfl (fun _ => rfl) ?_ | refine dno rfl rfl ?_)) <;> (
                          (first | refine dv rfl rfl (fun _ => rfl) ?_ | refine dno rfl rfl ?_ | (refine ds rfl rfl (fun hg => ?_) (fun hg => ?_) <;> first | refine dv rfl rfl (fun _ => rfl) ?_ | refine dno rfl rfl ?_)) <;> (
                          (first | refine dv rfl rfl (fun _ => rfl) ?_ | refine dno rfl rfl ?_ | (refine ds rfl rfl (fun hg => ?_) (fun hg => ?_) <;> first | refine dv rfl rfl (fun _ => rfl) ?_ | refine dno rfl rfl ?_)) <;> (
                          (first | refine dv rfl rfl (fun _ => rfl) ?_ | refine dno rfl rfl ?_ | (refine ds rfl rfl (fun hg => ?_) (fun hg => ?_) <;> first | refine dv rfl rfl (fun _ => rfl) ?_ | refine dno rfl rfl ?_)) <;> (
                          (first | refine dv rfl rfl (fun _ => rfl) ?_ | refine dno rfl rfl ?_ | (refine ds rfl rfl (fun hg => ?_) (fun hg => ?_) <;> first | refine dv rfl rfl (fun _ => rfl) ?_ | refine dno rfl rfl ?_)) <;> (
                          refine dv rfl rfl (fun _ => rfl) ?_
                          refine dn ?_
                          refine rn ?_
                          refine then_normal ?_
                          refine cs_ rfl (fun hc => ?_) (fun hc => ?_)
                          · first
                            | (cases hc; done)
                            | (
                              refine awp_seq ?_
                              exfalso
                              first | exact ne_1 ha hlt (by assumption) | exact ne_2 ha hlt (by assumption) | (cases hc; done))
                          · first
                            | (cases hc; done)
                            | (
                              refine awp_skip ?_
                              refine inBlock_normal ?_
                              refine then_normal ?_
                              refine awp_region ?_
                              refine rv rfl rfl (?_)
                              refine rv rfl rfl (?_)
                              refine rv rfl rfl (?_)
                              refine rn ?_
                              refine then_normal ?_
                              refine ⟨i + 1, hlt, by omega, ?_⟩
                              refine ⟨Nat.le_of_ble_eq_true rfl, ?_, ?_, ?_⟩
                              · refine ⟨⟨?_, rfl⟩, ?_⟩
                                · first | rfl | ((first | refine ei ?_ | refine eh ?_ | refine eb ?_ | refine ehb ?_ | skip); exact W_succ hlt hl)
                                refine ⟨⟨?_, rfl⟩, ?_⟩
                                · first | rfl | ((first | refine ei ?_ | refine eh ?_ | refine eb ?_ | refine ehb ?_ | skip); exact W_succ hlt hl)
                                refine ⟨⟨?_, rfl⟩, ?_⟩
                                · first | rfl | ((first | refine ei ?_ | refine eh ?_ | refine eb ?_ | refine ehb ?_ | skip); exact W_succ hlt hl)
                                refine ⟨⟨?_, rfl⟩, ?_⟩
                                · first | rfl | ((first | refine ei ?_ | refine eh ?_ | refine eb ?_ | refine ehb ?_ | skip); exact W_succ hlt hl)
                                refine ⟨⟨?_, rfl⟩, ?_⟩
                                · first | rfl | ((first | refine ei ?_ | refine eh ?_ | refine eb ?_ | refine ehb ?_ | skip); exact W_succ hlt hl)
                                refine ⟨⟨?_, rfl⟩, ?_⟩
                                · first | rfl | ((first | refine ei ?_ | refine eh ?_ | refine eb ?_ | refine ehb ?_ | skip); exact W_succ hlt hl)
                                exact trivial
                              · refine ⟨⟨?_, rfl, rfl⟩, ?_⟩
                                · first | rfl | ((first | refine ei ?_ | refine eh ?_ | refine eb ?_ | refine ehb ?_ | skip); exact W_succ hlt hl)
                                refine ⟨⟨?_, rfl, rfl⟩, ?_⟩
                                · first | rfl | ((first | refine ei ?_ | refine eh ?_ | refine eb ?_ | refine ehb ?_ | skip); exact W_succ hlt hl)
                                exact trivial
                              · exact trivial)))))))))))))))))
                      · first
                        | (cases hc; done)
                        | (
                          refine awp_exit ?_
                          repeat (first | refine then_exit ?_ | refine inBlock_other rfl ?_)
                          refine inBlock_exit ?_
                          refine then_normal ?_
                          refine awp_seq ?_
                          refine awp_region ?_
                          refine rv rfl rfl (?_)
                          refine rv rfl rfl (?_)
                          refine rn ?_
                          refine then_normal ?_
                          refine awp_ret ?_
                          repeat (first | refine then_ret ?_ | refine inBlock_ret ?_)
                          refine rr rfl rfl ?_
                          first | rfl | (simp; done) | (simp at hc; done) | (simp at hg; done) | trace_state)))))))))))))
end

theorem PolyTells_c {l : List Pt} {x y : Int} (hl : l.length ≤ maxLen) : PCall Try.prog 3 [.sl (rows l), .agg [.int .i64 x, .int .i64 y]] (· = .bool true) := PolyTells_p (p := (x, y)) hl
theorem PolyMoves_c {l : List Pt} {x y : Int} (hl : l.length ≤ maxLen) : PCall Try.prog 4 [.sl (rows l), .agg [.int .i64 x, .int .i64 y]] (· = .bool true) := PolyMoves_p (d := (x, y)) hl

end Go.Proofs.Ytngeejjllgnpcaa
