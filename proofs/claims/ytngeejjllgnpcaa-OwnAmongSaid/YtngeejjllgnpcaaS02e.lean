/- Contracts, printed by a program of this session's. -/
import Derived.Test.YtngeejjllgnpcaaS02d
import Derived.Test.YtngeejjllgnpcaaPwD
namespace Go.Proofs.Ytngeejjllgnpcaa
open Go.Pv
set_option maxRecDepth 100000
set_option maxHeartbeats 4000000
set_option linter.unusedSimpArgs false
set_option linter.unusedVariables false
set_option linter.unusedSectionVars false

abbrev Pt := Int × Int
def pr (p : Pt) : List AV := [.int .i64 p.1, .int .i64 p.2]
def rows (ps : List Pt) : List (List AV) := ps.map pr
theorem rows_len (ps : List Pt) : (rows ps).length = ps.length := by simp [rows]
theorem rows_get {ps : List Pt} {i : Nat} (h : i < ps.length) : (rows ps)[((i : Int)).toNat]? = some [.int .i64 (ps[i]'h).1, .int .i64 (ps[i]'h).2] := by
  simp [rows, pr, h]
theorem rows_wide (ps : List Pt) : Wide 2 (rows ps) := by
  intro r hr
  obtain ⟨p, _, rfl⟩ := List.mem_map.1 hr
  rfl
def may1 (p : Pt) : Bool := mayP p.1 p.2
def box (ps : List Pt) : Nat → Int × Int × Int × Int
  | 0 => (0, 0, 0, 0)
  | i + 1 => match ps[i]? with
    | none => (0, 0, 0, 0)
    | some p => if i = 0 then (p.1, p.2, p.1, p.2) else
      let b := box ps i
      (mn b.1 p.1, mn b.2.1 p.2, mx b.2.2.1 p.1, mx b.2.2.2 p.2)
theorem box_succ {ps : List Pt} {i : Nat} (h : i < ps.length) (h0 : decide ((i : Int) > 0) = true) :
    box ps (i + 1) = (mn (box ps i).1 (ps[i]'h).1, mn (box ps i).2.1 (ps[i]'h).2, mx (box ps i).2.2.1 (ps[i]'h).1, mx (box ps i).2.2.2 (ps[i]'h).2) := by
  have : i ≠ 0 := by simp at h0; omega
  simp [box, h, this]
theorem box_one {ps : List Pt} {i : Nat} (h : i < ps.length) (h0 : decide ((i : Int) > 0) = false) : box ps (i + 1) = ((ps[i]'h).1, (ps[i]'h).2, (ps[i]'h).1, (ps[i]'h).2) := by
  have : i = 0 := by simp at h0; omega
  subst this
  simp [box, h]
def allMay (ps : List Pt) : Bool := ps.all may1
def ofT (ps : List Pt) : AV := .tup [.agg [.int .i64 (mt (allMay ps) (box ps ps.length).1), .int .i64 (mt (allMay ps) (box ps ps.length).2.1), .int .i64 (mt (allMay ps) (box ps ps.length).2.2.1), .int .i64 (mt (allMay ps) (box ps ps.length).2.2.2)], .bool (allMay ps && decide (((rows ps).length : Int) > 0))]
theorem allMay_no {ps : List Pt} {i : Nat} (h : i < ps.length) (hm : mayP (ps[i]'h).1 (ps[i]'h).2 = false) : allMay ps = false := by
  rw [Bool.eq_false_iff]
  intro ha
  have := List.all_eq_true.1 ha _ (List.getElem_mem h)
  rw [may1, hm] at this; cases this
theorem take_succ {ps : List Pt} {i : Nat} (h : i < ps.length) (ha : allMay (ps.take i) = true) (hm : mayP (ps[i]'h).1 (ps[i]'h).2 = true) : allMay (ps.take (i + 1)) = true := by
  rw [List.take_add_one, List.getElem?_eq_getElem h]
  simp only [allMay, List.all_append] at *
  simp [ha, may1, hm]
theorem allMay_end {ps : List Pt} {i : Nat} (h : i ≤ ps.length ∧ allMay (ps.take i) = true) (hn : ¬ i < ps.length) : allMay ps = true ∧ ps.length = i := by
  have : i = ps.length := by omega
  subst this
  simpa using h.2
theorem not_lt_len {i : Nat} {ps : List Pt} (h : decide ((i : Int) < ((rows ps).length : Int)) = false) : ¬ i < ps.length := by
  rw [rows_len] at h; simp at h; omega
theorem lt_len {i : Nat} {ps : List Pt} (h : decide ((i : Int) < ((rows ps).length : Int)) = true) : i < ps.length := by
  rw [rows_len] at h; simp at h; omega

section
attribute [local irreducible] awp aops DP PCall ACall Decidable.decide
/-- `plover/rect.Of` -/
theorem of_c {ps : List Pt} (hl : ps.length ≤ maxLen) : PCall Try.prog 77 [.sl (rows ps)] (· = ofT ps) := by
  refine pcall_body Try.func77 rfl (by kernel_rfl) (by rfl) ?_
  refine awp_seq ?_
  refine awp_region ?_
  refine ra rfl rfl rfl (?_)
  refine rv rfl rfl (?_)
  refine rn ?_
  refine then_normal ?_
  refine awp_seq ?_
  refine awp_region ?_
  refine ra rfl rfl rfl (?_)
  refine rn ?_
  refine then_normal ?_
  refine awp_seq ?_
  refine awp_seq ?_
  refine awp_region ?_
  refine rv rfl rfl (?_)
  refine rv rfl rfl (?_)
  refine rv rfl rfl (?_)
  refine rn ?_
  refine then_normal ?_
  refine awp_block ?_
  refine awp_loop (ι := Nat) (fun i => ⟨[(0, .sl (rows ps)), (2, .ptr 0 0), (3, .bool false), (4, .ptr 1 0), (8, .sl (rows ps)), (9, .int .i64 ((rows ps).length : Int)), (10, .int .i64 (i : Int))], [(0, 0, .int .i64 0), (0, 1, .int .i64 0), (0, 2, .int .i64 0), (0, 3, .int .i64 0), (1, 0, .int .i64 (box ps i).1), (1, 1, .int .i64 (box ps i).2.1), (1, 2, .int .i64 (box ps i).2.2.1), (1, 3, .int .i64 (box ps i).2.2.2)], [], 2⟩) (fun i => i ≤ ps.length ∧ allMay (ps.take i) = true) (fun i => ps.length - i) (0) (⟨Nat.zero_le _, rfl⟩) ?_ (fun _ => Nat.zero_le _) (fun i hi => ?_)
  · refine ⟨Nat.le_of_ble_eq_true rfl, ?_, ?_, ?_⟩
    · refine ⟨⟨?_, rfl⟩, ?_⟩
      · first | rfl | ((first | refine ei ?_ | refine eh ?_ | refine eb ?_ | refine ehb ?_ | skip); first | exact W_succ hlt hl | (rw [box_succ hlt hc]; done) | (rw [box_one hlt hc]; done))
      refine ⟨⟨?_, rfl⟩, ?_⟩
      · first | rfl | ((first | refine ei ?_ | refine eh ?_ | refine eb ?_ | refine ehb ?_ | skip); first | exact W_succ hlt hl | (rw [box_succ hlt hc]; done) | (rw [box_one hlt hc]; done))
      refine ⟨⟨?_, rfl⟩, ?_⟩
      · first | rfl | ((first | refine ei ?_ | refine eh ?_ | refine eb ?_ | refine ehb ?_ | skip); first | exact W_succ hlt hl | (rw [box_succ hlt hc]; done) | (rw [box_one hlt hc]; done))
      refine ⟨⟨?_, rfl⟩, ?_⟩
      · first | rfl | ((first | refine ei ?_ | refine eh ?_ | refine eb ?_ | refine ehb ?_ | skip); first | exact W_succ hlt hl | (rw [box_succ hlt hc]; done) | (rw [box_one hlt hc]; done))
      refine ⟨⟨?_, rfl⟩, ?_⟩
      · first | rfl | ((first | refine ei ?_ | refine eh ?_ | refine eb ?_ | refine ehb ?_ | skip); first | exact W_succ hlt hl | (rw [box_succ hlt hc]; done) | (rw [box_one hlt hc]; done))
      refine ⟨⟨?_, rfl⟩, ?_⟩
      · first | rfl | ((first | refine ei ?_ | refine eh ?_ | refine eb ?_ | refine ehb ?_ | skip); first | exact W_succ hlt hl | (rw [box_succ hlt hc]; done) | (rw [box_one hlt hc]; done))
      refine ⟨⟨?_, rfl⟩, ?_⟩
      · first | rfl | ((first | refine ei ?_ | refine eh ?_ | refine eb ?_ | refine ehb ?_ | skip); first | exact W_succ hlt hl | (rw [box_succ hlt hc]; done) | (rw [box_one hlt hc]; done))
      exact trivial
    · refine ⟨⟨?_, rfl, rfl⟩, ?_⟩
      · first | rfl | ((first | refine ei ?_ | refine eh ?_ | refine eb ?_ | refine ehb ?_ | skip); first | exact W_succ hlt hl | (rw [box_succ hlt hc]; done) | (rw [box_one hlt hc]; done))
      refine ⟨⟨?_, rfl, rfl⟩, ?_⟩
      · first | rfl | ((first | refine ei ?_ | refine eh ?_ | refine eb ?_ | refine ehb ?_ | skip); first | exact W_succ hlt hl | (rw [box_succ hlt hc]; done) | (rw [box_one hlt hc]; done))
      refine ⟨⟨?_, rfl, rfl⟩, ?_⟩
      · first | rfl | ((first | refine ei ?_ | refine eh ?_ | refine eb ?_ | refine ehb ?_ | skip); first | exact W_succ hlt hl | (rw [box_succ hlt hc]; done) | (rw [box_one hlt hc]; done))
      refine ⟨⟨?_, rfl, rfl⟩, ?_⟩
      · first | rfl | ((first | refine ei ?_ | refine eh ?_ | refine eb ?_ | refine ehb ?_ | skip); first | exact W_succ hlt hl | (rw [box_succ hlt hc]; done) | (rw [box_one hlt hc]; done))
      refine ⟨⟨?_, rfl, rfl⟩, ?_⟩
      · first | rfl | ((first | refine ei ?_ | refine eh ?_ | refine eb ?_ | refine ehb ?_ | skip); first | exact W_succ hlt hl | (rw [box_succ hlt hc]; done) | (rw [box_one hlt hc]; done))
      refine ⟨⟨?_, rfl, rfl⟩, ?_⟩
      · first | rfl | ((first | refine ei ?_ | refine eh ?_ | refine eb ?_ | refine ehb ?_ | skip); first | exact W_succ hlt hl | (rw [box_succ hlt hc]; done) | (rw [box_one hlt hc]; done))
      refine ⟨⟨?_, rfl, rfl⟩, ?_⟩
      · first | rfl | ((first | refine ei ?_ | refine eh ?_ | refine eb ?_ | refine ehb ?_ | skip); first | exact W_succ hlt hl | (rw [box_succ hlt hc]; done) | (rw [box_one hlt hc]; done))
      refine ⟨⟨?_, rfl, rfl⟩, ?_⟩
      · first | rfl | ((first | refine ei ?_ | refine eh ?_ | refine eb ?_ | refine ehb ?_ | skip); first | exact W_succ hlt hl | (rw [box_succ hlt hc]; done) | (rw [box_one hlt hc]; done))
      exact trivial
    · exact trivial
  refine awp_seq ?_
  refine awp_region ?_
  refine rv rfl rfl (?_)
  refine rn ?_
  refine then_normal ?_
  refine awp_seq ?_
  refine cs_ rfl (fun hc => ?_) (fun hc => ?_)
  · first
    | (cases hc; done)
    | (
      refine awp_skip ?_
      refine then_normal ?_
      refine awp_seq ?_
      refine awp_block ?_
      refine awp_seq ?_
      (have hlt := lt_len hc) <;> (
      refine awp_region ?_
      refine rv rfl rfl (?_)
      refine ri rfl rfl rfl rfl rfl rfl (Int.natCast_nonneg i) (rows_get hlt) (rows_wide ps) (?_)
      refine rv rfl rfl (?_)
      refine ra rfl rfl rfl (?_)
      refine rv rfl rfl (?_)
      refine rs rfl rfl rfl rfl rfl rfl rfl (?_)
      refine rn ?_
      refine then_normal ?_
      refine awp_seq ?_
      refine awp_seq ?_
      refine awp_region ?_
      refine rv rfl rfl (?_)
      refine rc1 rfl rfl rfl mayP_c (?_)
      refine rv rfl rfl (?_)
      refine rn ?_
      refine then_normal ?_
      refine cs_ rfl (fun hc => ?_) (fun hc => ?_)
      · first
        | (cases hc; done)
        | (
          refine awp_seq ?_
          refine awp_region ?_
          refine rv rfl rfl (?_)
          refine rs rfl rfl rfl rfl rfl rfl rfl (?_)
          refine rv rfl rfl (?_)
          refine rn ?_
          refine then_normal ?_
          refine awp_ret ?_
          repeat (first | refine then_ret ?_ | refine inBlock_ret ?_)
          refine rr rfl rfl ?_
          first | (have hm := allMay_no hlt (by simpa using hc); simp only [ofT, hm, mt]; rfl) | (have hal := allMay_end hi (not_lt_len hc); simp only [ofT, hal.1, hal.2, mt]; rfl))
      · first
        | (cases hc; done)
        | (
          refine awp_skip ?_
          refine then_normal ?_
          refine awp_seq ?_
          (have hm := hc) <;> (
          refine awp_region ?_
          refine rv rfl rfl (?_)
          refine rv rfl rfl (?_)
          refine rv rfl rfl (?_)
          refine rv rfl rfl (?_)
          refine rv rfl rfl (?_)
          refine rv rfl rfl (?_)
          refine rv rfl rfl (?_)
          refine rv rfl rfl (?_)
          refine rv rfl rfl (?_)
          refine ra rfl rfl rfl (?_)
          refine rs rfl rfl rfl rfl rfl rfl rfl (?_)
          refine rn ?_
          refine then_normal ?_
          refine awp_seq ?_
          refine awp_seq ?_
          refine awp_region ?_
          refine rv rfl rfl (?_)
          refine rv rfl rfl (?_)
          refine rn ?_
          refine then_normal ?_
          refine cs_ rfl (fun hc => ?_) (fun hc => ?_)
          · first
            | (cases hc; done)
            | (
              refine awp_region ?_
              refine rv rfl rfl (?_)
              refine rv rfl rfl (?_)
              refine rc1 rfl rfl rfl joinR_c (?_)
              refine rs rfl rfl rfl rfl rfl rfl rfl (?_)
              refine rn ?_
              refine then_normal ?_
              refine awp_region ?_
              refine rv rfl rfl (?_)
              refine rs rfl rfl rfl rfl rfl rfl rfl (?_)
              refine rn ?_
              refine inBlock_normal ?_
              refine then_normal ?_
              refine awp_region ?_
              refine rv rfl rfl (?_)
              refine rv rfl rfl (?_)
              refine rn ?_
              refine then_normal ?_
              refine ⟨i + 1, ⟨hlt, take_succ hlt hi.2 (by simpa using hm)⟩, by omega, ?_⟩
              refine ⟨Nat.le_of_ble_eq_true rfl, ?_, ?_, ?_⟩
              · refine ⟨⟨?_, rfl⟩, ?_⟩
                · first | rfl | ((first | refine ei ?_ | refine eh ?_ | refine eb ?_ | refine ehb ?_ | skip); first | exact W_succ hlt hl | (rw [box_succ hlt hc]; done) | (rw [box_one hlt hc]; done))
                refine ⟨⟨?_, rfl⟩, ?_⟩
                · first | rfl | ((first | refine ei ?_ | refine eh ?_ | refine eb ?_ | refine ehb ?_ | skip); first | exact W_succ hlt hl | (rw [box_succ hlt hc]; done) | (rw [box_one hlt hc]; done))
                refine ⟨⟨?_, rfl⟩, ?_⟩
                · first | rfl | ((first | refine ei ?_ | refine eh ?_ | refine eb ?_ | refine ehb ?_ | skip); first | exact W_succ hlt hl | (rw [box_succ hlt hc]; done) | (rw [box_one hlt hc]; done))
                refine ⟨⟨?_, rfl⟩, ?_⟩
                · first | rfl | ((first | refine ei ?_ | refine eh ?_ | refine eb ?_ | refine ehb ?_ | skip); first | exact W_succ hlt hl | (rw [box_succ hlt hc]; done) | (rw [box_one hlt hc]; done))
                refine ⟨⟨?_, rfl⟩, ?_⟩
                · first | rfl | ((first | refine ei ?_ | refine eh ?_ | refine eb ?_ | refine ehb ?_ | skip); first | exact W_succ hlt hl | (rw [box_succ hlt hc]; done) | (rw [box_one hlt hc]; done))
                refine ⟨⟨?_, rfl⟩, ?_⟩
                · first | rfl | ((first | refine ei ?_ | refine eh ?_ | refine eb ?_ | refine ehb ?_ | skip); first | exact W_succ hlt hl | (rw [box_succ hlt hc]; done) | (rw [box_one hlt hc]; done))
                refine ⟨⟨?_, rfl⟩, ?_⟩
                · first | rfl | ((first | refine ei ?_ | refine eh ?_ | refine eb ?_ | refine ehb ?_ | skip); first | exact W_succ hlt hl | (rw [box_succ hlt hc]; done) | (rw [box_one hlt hc]; done))
                exact trivial
              · refine ⟨⟨?_, rfl, rfl⟩, ?_⟩
                · first | rfl | ((first | refine ei ?_ | refine eh ?_ | refine eb ?_ | refine ehb ?_ | skip); first | exact W_succ hlt hl | (rw [box_succ hlt hc]; done) | (rw [box_one hlt hc]; done))
                refine ⟨⟨?_, rfl, rfl⟩, ?_⟩
                · first | rfl | ((first | refine ei ?_ | refine eh ?_ | refine eb ?_ | refine ehb ?_ | skip); first | exact W_succ hlt hl | (rw [box_succ hlt hc]; done) | (rw [box_one hlt hc]; done))
                refine ⟨⟨?_, rfl, rfl⟩, ?_⟩
                · first | rfl | ((first | refine ei ?_ | refine eh ?_ | refine eb ?_ | refine ehb ?_ | skip); first | exact W_succ hlt hl | (rw [box_succ hlt hc]; done) | (rw [box_one hlt hc]; done))
                refine ⟨⟨?_, rfl, rfl⟩, ?_⟩
                · first | rfl | ((first | refine ei ?_ | refine eh ?_ | refine eb ?_ | refine ehb ?_ | skip); first | exact W_succ hlt hl | (rw [box_succ hlt hc]; done) | (rw [box_one hlt hc]; done))
                refine ⟨⟨?_, rfl, rfl⟩, ?_⟩
                · first | rfl | ((first | refine ei ?_ | refine eh ?_ | refine eb ?_ | refine ehb ?_ | skip); first | exact W_succ hlt hl | (rw [box_succ hlt hc]; done) | (rw [box_one hlt hc]; done))
                refine ⟨⟨?_, rfl, rfl⟩, ?_⟩
                · first | rfl | ((first | refine ei ?_ | refine eh ?_ | refine eb ?_ | refine ehb ?_ | skip); first | exact W_succ hlt hl | (rw [box_succ hlt hc]; done) | (rw [box_one hlt hc]; done))
                refine ⟨⟨?_, rfl, rfl⟩, ?_⟩
                · first | rfl | ((first | refine ei ?_ | refine eh ?_ | refine eb ?_ | refine ehb ?_ | skip); first | exact W_succ hlt hl | (rw [box_succ hlt hc]; done) | (rw [box_one hlt hc]; done))
                refine ⟨⟨?_, rfl, rfl⟩, ?_⟩
                · first | rfl | ((first | refine ei ?_ | refine eh ?_ | refine eb ?_ | refine ehb ?_ | skip); first | exact W_succ hlt hl | (rw [box_succ hlt hc]; done) | (rw [box_one hlt hc]; done))
                exact trivial
              · exact trivial)
          · first
            | (cases hc; done)
            | (
              refine awp_skip ?_
              refine then_normal ?_
              refine awp_region ?_
              refine rv rfl rfl (?_)
              refine rs rfl rfl rfl rfl rfl rfl rfl (?_)
              refine rn ?_
              refine inBlock_normal ?_
              refine then_normal ?_
              refine awp_region ?_
              refine rv rfl rfl (?_)
              refine rv rfl rfl (?_)
              refine rn ?_
              refine then_normal ?_
              refine ⟨i + 1, ⟨hlt, take_succ hlt hi.2 (by simpa using hm)⟩, by omega, ?_⟩
              refine ⟨Nat.le_of_ble_eq_true rfl, ?_, ?_, ?_⟩
              · refine ⟨⟨?_, rfl⟩, ?_⟩
                · first | rfl | ((first | refine ei ?_ | refine eh ?_ | refine eb ?_ | refine ehb ?_ | skip); first | exact W_succ hlt hl | (rw [box_succ hlt hc]; done) | (rw [box_one hlt hc]; done))
                refine ⟨⟨?_, rfl⟩, ?_⟩
                · first | rfl | ((first | refine ei ?_ | refine eh ?_ | refine eb ?_ | refine ehb ?_ | skip); first | exact W_succ hlt hl | (rw [box_succ hlt hc]; done) | (rw [box_one hlt hc]; done))
                refine ⟨⟨?_, rfl⟩, ?_⟩
                · first | rfl | ((first | refine ei ?_ | refine eh ?_ | refine eb ?_ | refine ehb ?_ | skip); first | exact W_succ hlt hl | (rw [box_succ hlt hc]; done) | (rw [box_one hlt hc]; done))
                refine ⟨⟨?_, rfl⟩, ?_⟩
                · first | rfl | ((first | refine ei ?_ | refine eh ?_ | refine eb ?_ | refine ehb ?_ | skip); first | exact W_succ hlt hl | (rw [box_succ hlt hc]; done) | (rw [box_one hlt hc]; done))
                refine ⟨⟨?_, rfl⟩, ?_⟩
                · first | rfl | ((first | refine ei ?_ | refine eh ?_ | refine eb ?_ | refine ehb ?_ | skip); first | exact W_succ hlt hl | (rw [box_succ hlt hc]; done) | (rw [box_one hlt hc]; done))
                refine ⟨⟨?_, rfl⟩, ?_⟩
                · first | rfl | ((first | refine ei ?_ | refine eh ?_ | refine eb ?_ | refine ehb ?_ | skip); first | exact W_succ hlt hl | (rw [box_succ hlt hc]; done) | (rw [box_one hlt hc]; done))
                refine ⟨⟨?_, rfl⟩, ?_⟩
                · first | rfl | ((first | refine ei ?_ | refine eh ?_ | refine eb ?_ | refine ehb ?_ | skip); first | exact W_succ hlt hl | (rw [box_succ hlt hc]; done) | (rw [box_one hlt hc]; done))
                exact trivial
              · refine ⟨⟨?_, rfl, rfl⟩, ?_⟩
                · first | rfl | ((first | refine ei ?_ | refine eh ?_ | refine eb ?_ | refine ehb ?_ | skip); first | exact W_succ hlt hl | (rw [box_succ hlt hc]; done) | (rw [box_one hlt hc]; done))
                refine ⟨⟨?_, rfl, rfl⟩, ?_⟩
                · first | rfl | ((first | refine ei ?_ | refine eh ?_ | refine eb ?_ | refine ehb ?_ | skip); first | exact W_succ hlt hl | (rw [box_succ hlt hc]; done) | (rw [box_one hlt hc]; done))
                refine ⟨⟨?_, rfl, rfl⟩, ?_⟩
                · first | rfl | ((first | refine ei ?_ | refine eh ?_ | refine eb ?_ | refine ehb ?_ | skip); first | exact W_succ hlt hl | (rw [box_succ hlt hc]; done) | (rw [box_one hlt hc]; done))
                refine ⟨⟨?_, rfl, rfl⟩, ?_⟩
                · first | rfl | ((first | refine ei ?_ | refine eh ?_ | refine eb ?_ | refine ehb ?_ | skip); first | exact W_succ hlt hl | (rw [box_succ hlt hc]; done) | (rw [box_one hlt hc]; done))
                refine ⟨⟨?_, rfl, rfl⟩, ?_⟩
                · first | rfl | ((first | refine ei ?_ | refine eh ?_ | refine eb ?_ | refine ehb ?_ | skip); first | exact W_succ hlt hl | (rw [box_succ hlt hc]; done) | (rw [box_one hlt hc]; done))
                refine ⟨⟨?_, rfl, rfl⟩, ?_⟩
                · first | rfl | ((first | refine ei ?_ | refine eh ?_ | refine eb ?_ | refine ehb ?_ | skip); first | exact W_succ hlt hl | (rw [box_succ hlt hc]; done) | (rw [box_one hlt hc]; done))
                refine ⟨⟨?_, rfl, rfl⟩, ?_⟩
                · first | rfl | ((first | refine ei ?_ | refine eh ?_ | refine eb ?_ | refine ehb ?_ | skip); first | exact W_succ hlt hl | (rw [box_succ hlt hc]; done) | (rw [box_one hlt hc]; done))
                refine ⟨⟨?_, rfl, rfl⟩, ?_⟩
                · first | rfl | ((first | refine ei ?_ | refine eh ?_ | refine eb ?_ | refine ehb ?_ | skip); first | exact W_succ hlt hl | (rw [box_succ hlt hc]; done) | (rw [box_one hlt hc]; done))
                exact trivial
              · exact trivial)))))
  · first
    | (cases hc; done)
    | (
      refine awp_exit ?_
      repeat (first | refine then_exit ?_ | refine inBlock_other rfl ?_)
      refine inBlock_exit ?_
      refine then_normal ?_
      refine awp_seq ?_
      refine awp_region ?_
      refine rv rfl rfl (?_)
      refine rv rfl rfl (?_)
      refine rv rfl rfl (?_)
      refine rv rfl rfl (?_)
      refine rs rfl rfl rfl rfl rfl rfl rfl (?_)
      refine rv rfl rfl (?_)
      refine rn ?_
      refine then_normal ?_
      refine awp_ret ?_
      repeat (first | refine then_ret ?_ | refine inBlock_ret ?_)
      refine rr rfl rfl ?_
      first | (have hm := allMay_no hlt (by simpa using hc); simp only [ofT, hm, mt]; rfl) | (have hal := allMay_end hi (not_lt_len hc); simp only [ofT, hal.1, hal.2, mt]; rfl))
end

def rbox (ps : List Pt) : Nat → Int × Int × Int × Int
  | 0 => match ps[0]? with
    | none => (0, 0, 0, 0)
    | some p => (p.1, p.2, p.1, p.2)
  | i + 1 => match ps[i]? with
    | none => (0, 0, 0, 0)
    | some p => let b := rbox ps i
      (mn p.1 b.1, mn p.2 b.2.1, mor b.2.2.1 p.1, mor b.2.2.2 p.2)
theorem rows_get0 {ps : List Pt} (h : 0 < ps.length) : (rows ps)[(0 : Int).toNat]? = some [.int .i64 (ps[0]'h).1, .int .i64 (ps[0]'h).2] := rows_get (i := 0) h
theorem rbox_zero {ps : List Pt} (h : 0 < ps.length) : rbox ps 0 = ((ps[0]'h).1, (ps[0]'h).2, (ps[0]'h).1, (ps[0]'h).2) := by simp [rbox, h]
theorem rbox_succ {ps : List Pt} {i : Nat} (h : i < ps.length) :
    rbox ps (i + 1) = (mn (ps[i]'h).1 (rbox ps i).1, mn (ps[i]'h).2 (rbox ps i).2.1, mor (rbox ps i).2.2.1 (ps[i]'h).1, mor (rbox ps i).2.2.2 (ps[i]'h).2) := by
  simp [rbox, h]
def rofB (ps : List Pt) : Bool := allMay ps && decide (0 < ps.length)
def rofT (ps : List Pt) : AV := .tup [.agg [.int .i64 (mt (rofB ps) (rbox ps ps.length).1), .int .i64 (mt (rofB ps) (rbox ps ps.length).2.1), .int .i64 (mt (rofB ps) (rbox ps ps.length).2.2.1), .int .i64 (mt (rofB ps) (rbox ps ps.length).2.2.2)], .bool (rofB ps)]
theorem len_zero {ps : List Pt} (h : decide (((rows ps).length : Int) = 0) = true) : rofB ps = false := by
  rw [rows_len] at h; simp [rofB]; intro _; simp at h; simp [h]
theorem len_pos {ps : List Pt} (h : decide (((rows ps).length : Int) = 0) = false) : 0 < ps.length := by
  rw [rows_len] at h; simp at h; cases ps <;> simp_all
theorem bd_mn {x y : Int} (h : Bd x) (k : Bd y) : Bd (mn x y) := by unfold mn; split <;> assumption
theorem bd_mx {x y : Int} (h : Bd x) (k : Bd y) : Bd (mx x y) := by unfold mx; split <;> assumption
theorem bd_box {ps : List Pt} (ha : allMay ps = true) : ∀ i, i < ps.length → BdR (box ps (i + 1)).1 (box ps (i + 1)).2.1 (box ps (i + 1)).2.2.1 (box ps (i + 1)).2.2.2 ∧ rbox ps (i + 1) = box ps (i + 1)
  | 0, h => by
    have hm := List.all_eq_true.1 ha _ (List.getElem_mem h)
    rw [may1, mayP_iff] at hm
    rw [box_one h rfl, rbox_succ h, rbox_zero h]
    refine ⟨⟨hm.1, hm.2, hm.1, hm.2⟩, ?_⟩
    rw [mor_eq hm.1 hm.1, mor_eq hm.2 hm.2]
    simp [mn, mx]
  | i + 1, h => by
    have hm := List.all_eq_true.1 ha _ (List.getElem_mem h)
    rw [may1, mayP_iff] at hm
    obtain ⟨⟨b1, b2, b3, b4⟩, he⟩ := bd_box ha i (by omega)
    rw [box_succ h (by first | (simp; done) | (simp; omega)), rbox_succ h, he]
    refine ⟨⟨bd_mn b1 hm.1, bd_mn b2 hm.2, bd_mx b3 hm.1, bd_mx b4 hm.2⟩, ?_⟩
    rw [mor_eq b3 hm.1, mor_eq b4 hm.2, mn_comm (ps[i + 1].1), mn_comm (ps[i + 1].2)]
theorem ofs (ps : List Pt) : allMay ps = true ∧ 0 < ps.length ∧ rofB ps = true ∧ rbox ps ps.length = box ps ps.length ∨ rofB ps = false ∧ (allMay ps = false ∨ ps = []) := by
  cases ha : allMay ps with
  | false => exact .inr ⟨by simp [rofB, ha], .inl rfl⟩
  | true =>
    cases hp : ps.length with
    | zero => exact .inr ⟨by simp [rofB, hp], .inr (List.length_eq_zero_iff.1 hp)⟩
    | succ n => exact .inl ⟨rfl, by omega, by simp [rofB, ha, hp], (bd_box ha n (by omega)).2⟩
theorem ofs_eq (ps : List Pt) : ofT ps = rofT ps := by
  rcases ofs ps with ⟨h1, h2, h3, h4⟩ | ⟨h1, h2 | h2⟩
  · simp only [ofT, rofT, h1, h3, h4, rows_len]; simp; omega
  · simp [ofT, rofT, h1, h2, mt]
  · subst h2; simp [ofT, rofT, h1, mt, allMay, box, rows]

theorem rof_no {ps : List Pt} (h : rofB ps = false) : AV.tup [AV.agg [AV.int .i64 0, AV.int .i64 0, AV.int .i64 0, AV.int .i64 0], AV.bool false] = rofT ps := by
  unfold rofT; rw [h]; rfl
theorem rof_yes {ps : List Pt} {i : Nat} (h : rofB ps = true) (hn : ps.length = i) : AV.tup [AV.agg [AV.int .i64 (rbox ps i).1, AV.int .i64 (rbox ps i).2.1, AV.int .i64 (rbox ps i).2.2.1, AV.int .i64 (rbox ps i).2.2.2], AV.bool true] = rofT ps := by
  unfold rofT; rw [h, hn]; rfl
theorem rofB_no {ps : List Pt} (h : allMay ps = false) : rofB ps = false := by unfold rofB; rw [h]; rfl
theorem rofB_yes {ps : List Pt} (h : allMay ps = true) (k : 0 < ps.length) : rofB ps = true := by unfold rofB; rw [h, decide_eq_true k]; rfl

section
attribute [local irreducible] awp aops DP PCall ACall Decidable.decide
/-- `plover/ploverref01.Of` -/
theorem rof_c {ps : List Pt} (hl : ps.length ≤ maxLen) : PCall Try.prog 25 [.sl (rows ps)] (· = rofT ps) := by
  refine pcall_body Try.func25 rfl (by kernel_rfl) (by rfl) ?_
  refine awp_seq ?_
  refine awp_region ?_
  refine ra rfl rfl rfl (?_)
  refine rv rfl rfl (?_)
  refine rn ?_
  refine then_normal ?_
  refine awp_seq ?_
  refine awp_seq ?_
  refine awp_region ?_
  refine rv rfl rfl (?_)
  refine rv rfl rfl (?_)
  refine rv rfl rfl (?_)
  refine rn ?_
  refine then_normal ?_
  refine cs_ rfl (fun hc => ?_) (fun hc => ?_)
  · first
    | (cases hc; done)
    | (
      refine awp_seq ?_
      refine awp_region ?_
      refine rv rfl rfl (?_)
      refine rs rfl rfl rfl rfl rfl rfl rfl (?_)
      refine rv rfl rfl (?_)
      refine rn ?_
      refine then_normal ?_
      refine awp_ret ?_
      repeat (first | refine then_ret ?_ | refine inBlock_ret ?_)
      refine rr rfl rfl ?_
      first | exact rof_no (len_zero hc) | exact rof_no (rofB_no (allMay_no hlt (by simpa using hc))) | exact rof_yes (rofB_yes (allMay_end hi (not_lt_len hc)).1 hpos) (allMay_end hi (not_lt_len hc)).2)
  · first
    | (cases hc; done)
    | (
      refine awp_skip ?_
      refine then_normal ?_
      refine awp_seq ?_
      (have hpos := len_pos hc) <;> (
      refine awp_dp (m := 18) Try.mix (by kernel_rfl) (by kernel_rfl) (by kernel_rfl) (by kernel_rfl) (by kernel_rfl) (by kernel_rfl) (by kernel_rfl) ?_
      refine dv rfl rfl (fun _ => rfl) ?_
      refine di rfl rfl rfl rfl rfl (fun _ => rfl) rfl (Int.le_refl 0) (rows_get0 hpos) (rows_wide ps) ?_
      refine dv rfl rfl (fun _ => rfl) ?_
      refine dv rfl rfl (fun _ => rfl) ?_
      refine dv rfl rfl (fun _ => rfl) ?_
      refine di rfl rfl rfl rfl rfl (fun _ => rfl) rfl (Int.le_refl 0) (rows_get0 hpos) (rows_wide ps) ?_
      refine dv rfl rfl (fun _ => rfl) ?_
      refine dv rfl rfl (fun _ => rfl) ?_
      refine dv rfl rfl (fun _ => rfl) ?_
      refine di rfl rfl rfl rfl rfl (fun _ => rfl) rfl (Int.le_refl 0) (rows_get0 hpos) (rows_wide ps) ?_
      refine dv rfl rfl (fun _ => rfl) ?_
      refine dv rfl rfl (fun _ => rfl) ?_
      refine dv rfl rfl (fun _ => rfl) ?_
      refine di rfl rfl rfl rfl rfl (fun _ => rfl) rfl (Int.le_refl 0) (rows_get0 hpos) (rows_wide ps) ?_
      refine dv rfl rfl (fun _ => rfl) ?_
      refine dv rfl rfl (fun _ => rfl) ?_
      refine dv rfl rfl (fun _ => rfl) ?_
      refine da rfl rfl rfl ?_
      refine dn ?_
      refine rs rfl rfl rfl rfl rfl rfl rfl (?_)
      refine rn ?_
      refine then_normal ?_
      refine awp_seq ?_
      refine awp_seq ?_
      refine awp_region ?_
      refine rv rfl rfl (?_)
      refine rn ?_
      refine then_normal ?_
      refine awp_block ?_
      refine awp_loop (ι := Nat) (fun i => ⟨[(0, .sl (rows ps)), (2, .ptr 0 0), (3, .bool false), (4, .ptr 1 0), (5, .int .i64 (i : Int))], [(0, 0, .int .i64 0), (0, 1, .int .i64 0), (0, 2, .int .i64 0), (0, 3, .int .i64 0), (1, 0, .int .i64 (rbox ps i).1), (1, 1, .int .i64 (rbox ps i).2.1), (1, 2, .int .i64 (rbox ps i).2.2.1), (1, 3, .int .i64 (rbox ps i).2.2.2)], [], 2⟩) (fun i => i ≤ ps.length ∧ allMay (ps.take i) = true) (fun i => ps.length - i) (0) (⟨Nat.zero_le _, rfl⟩) ?_ (fun _ => Nat.zero_le _) (fun i hi => ?_)
      · refine ⟨Nat.le_of_ble_eq_true rfl, ?_, ?_, ?_⟩
        · refine ⟨⟨?_, rfl⟩, ?_⟩
          · first | rfl | ((first | refine ei ?_ | refine eh ?_ | refine eb ?_ | refine ehb ?_ | skip); rw [rbox_zero hpos])
          refine ⟨⟨?_, rfl⟩, ?_⟩
          · first | rfl | ((first | refine ei ?_ | refine eh ?_ | refine eb ?_ | refine ehb ?_ | skip); rw [rbox_zero hpos])
          refine ⟨⟨?_, rfl⟩, ?_⟩
          · first | rfl | ((first | refine ei ?_ | refine eh ?_ | refine eb ?_ | refine ehb ?_ | skip); rw [rbox_zero hpos])
          refine ⟨⟨?_, rfl⟩, ?_⟩
          · first | rfl | ((first | refine ei ?_ | refine eh ?_ | refine eb ?_ | refine ehb ?_ | skip); rw [rbox_zero hpos])
          refine ⟨⟨?_, rfl⟩, ?_⟩
          · first | rfl | ((first | refine ei ?_ | refine eh ?_ | refine eb ?_ | refine ehb ?_ | skip); rw [rbox_zero hpos])
          exact trivial
        · refine ⟨⟨?_, rfl, rfl⟩, ?_⟩
          · first | rfl | ((first | refine ei ?_ | refine eh ?_ | refine eb ?_ | refine ehb ?_ | skip); rw [rbox_zero hpos])
          refine ⟨⟨?_, rfl, rfl⟩, ?_⟩
          · first | rfl | ((first | refine ei ?_ | refine eh ?_ | refine eb ?_ | refine ehb ?_ | skip); rw [rbox_zero hpos])
          refine ⟨⟨?_, rfl, rfl⟩, ?_⟩
          · first | rfl | ((first | refine ei ?_ | refine eh ?_ | refine eb ?_ | refine ehb ?_ | skip); rw [rbox_zero hpos])
          refine ⟨⟨?_, rfl, rfl⟩, ?_⟩
          · first | rfl | ((first | refine ei ?_ | refine eh ?_ | refine eb ?_ | refine ehb ?_ | skip); rw [rbox_zero hpos])
          refine ⟨⟨?_, rfl, rfl⟩, ?_⟩
          · first | rfl | ((first | refine ei ?_ | refine eh ?_ | refine eb ?_ | refine ehb ?_ | skip); rw [rbox_zero hpos])
          refine ⟨⟨?_, rfl, rfl⟩, ?_⟩
          · first | rfl | ((first | refine ei ?_ | refine eh ?_ | refine eb ?_ | refine ehb ?_ | skip); rw [rbox_zero hpos])
          refine ⟨⟨?_, rfl, rfl⟩, ?_⟩
          · first | rfl | ((first | refine ei ?_ | refine eh ?_ | refine eb ?_ | refine ehb ?_ | skip); rw [rbox_zero hpos])
          refine ⟨⟨?_, rfl, rfl⟩, ?_⟩
          · first | rfl | ((first | refine ei ?_ | refine eh ?_ | refine eb ?_ | refine ehb ?_ | skip); rw [rbox_zero hpos])
          exact trivial
        · exact trivial
      refine awp_seq ?_
      refine awp_seq ?_
      refine awp_region ?_
      refine rv rfl rfl (?_)
      refine rv rfl rfl (?_)
      refine rv rfl rfl (?_)
      refine rv rfl rfl (?_)
      refine rn ?_
      refine then_normal ?_
      refine cs_ rfl (fun hc => ?_) (fun hc => ?_)
      · first
        | (cases hc; done)
        | (
          refine awp_skip ?_
          refine then_normal ?_
          refine awp_seq ?_
          refine awp_block ?_
          refine awp_seq ?_
          (have hlt := lt_len hc) <;> (
          refine awp_region ?_
          refine rv rfl rfl (?_)
          refine rv rfl rfl (?_)
          refine ri rfl rfl rfl rfl rfl rfl (Int.natCast_nonneg i) (rows_get hlt) (rows_wide ps) (?_)
          refine rv rfl rfl (?_)
          refine rc1 rfl rfl rfl rmayP_c (?_)
          refine rv rfl rfl (?_)
          refine rn ?_
          refine then_normal ?_
          refine awp_seq ?_
          refine awp_seq ?_
          refine awp_region ?_
          refine rv rfl rfl (?_)
          refine rv rfl rfl (?_)
          refine rn ?_
          refine then_normal ?_
          refine cs_ rfl (fun hc => ?_) (fun hc => ?_)
          · first
            | (cases hc; done)
            | (
              refine awp_seq ?_
              refine awp_region ?_
              refine rv rfl rfl (?_)
              refine rs rfl rfl rfl rfl rfl rfl rfl (?_)
              refine rv rfl rfl (?_)
              refine rn ?_
              refine then_normal ?_
              refine awp_ret ?_
              repeat (first | refine then_ret ?_ | refine inBlock_ret ?_)
              refine rr rfl rfl ?_
              first | exact rof_no (len_zero hc) | exact rof_no (rofB_no (allMay_no hlt (by simpa using hc))) | exact rof_yes (rofB_yes (allMay_end hi (not_lt_len hc)).1 hpos) (allMay_end hi (not_lt_len hc)).2)
          · first
            | (cases hc; done)
            | (
              refine awp_skip ?_
              refine then_normal ?_
              (have hm := hc) <;> (
              refine awp_dp (m := 23) Try.mix (by kernel_rfl) (by kernel_rfl) (by kernel_rfl) (by kernel_rfl) (by kernel_rfl) (by kernel_rfl) (by kernel_rfl) ?_
              refine dv rfl rfl (fun _ => rfl) ?_
              refine dv rfl rfl (fun _ => rfl) ?_
              refine dv rfl rfl (fun _ => rfl) ?_
              refine di rfl rfl rfl rfl rfl (fun _ => rfl) rfl (Int.natCast_nonneg i) (rows_get hlt) (rows_wide ps) ?_
              refine dv rfl rfl (fun _ => rfl) ?_
              refine dv rfl rfl (fun _ => rfl) ?_
              refine dv rfl rfl (fun _ => rfl) ?_
              refine dv rfl rfl (fun _ => rfl) ?_
              refine di rfl rfl rfl rfl rfl (fun _ => rfl) rfl (Int.natCast_nonneg i) (rows_get hlt) (rows_wide ps) ?_
              refine dv rfl rfl (fun _ => rfl) ?_
              refine dv rfl rfl (fun _ => rfl) ?_
              refine dv rfl rfl (fun _ => rfl) ?_
              refine dv rfl rfl (fun _ => rfl) ?_
              refine di rfl rfl rfl rfl rfl (fun _ => rfl) rfl (Int.natCast_nonneg i) (rows_get hlt) (rows_wide ps) ?_
              refine dv rfl rfl (fun _ => rfl) ?_
              refine dv rfl rfl (fun _ => rfl) ?_
              refine dv rfl rfl (fun _ => rfl) ?_
              refine dv rfl rfl (fun _ => rfl) ?_
              refine di rfl rfl rfl rfl rfl (fun _ => rfl) rfl (Int.natCast_nonneg i) (rows_get hlt) (rows_wide ps) ?_
              refine dv rfl rfl (fun _ => rfl) ?_
              refine dv rfl rfl (fun _ => rfl) ?_
              refine dv rfl rfl (fun _ => rfl) ?_
              refine dc rfl rfl rfl rfl (fun _ => rfl) (fun _ => rjoin_c) ?_
              refine dn ?_
              refine rs rfl rfl rfl rfl rfl rfl rfl (?_)
              refine rn ?_
              refine inBlock_normal ?_
              refine then_normal ?_
              refine awp_region ?_
              refine rv rfl rfl (?_)
              refine rv rfl rfl (?_)
              refine rv rfl rfl (?_)
              refine rn ?_
              refine then_normal ?_
              refine ⟨i + 1, ⟨hlt, take_succ hlt hi.2 (by simpa using hm)⟩, by omega, ?_⟩
              refine ⟨Nat.le_of_ble_eq_true rfl, ?_, ?_, ?_⟩
              · refine ⟨⟨?_, rfl⟩, ?_⟩
                · first | rfl | ((first | refine ei ?_ | refine eh ?_ | refine eb ?_ | refine ehb ?_ | skip); first | exact W_succ hlt hl | (rw [rbox_succ hlt]; done))
                refine ⟨⟨?_, rfl⟩, ?_⟩
                · first | rfl | ((first | refine ei ?_ | refine eh ?_ | refine eb ?_ | refine ehb ?_ | skip); first | exact W_succ hlt hl | (rw [rbox_succ hlt]; done))
                refine ⟨⟨?_, rfl⟩, ?_⟩
                · first | rfl | ((first | refine ei ?_ | refine eh ?_ | refine eb ?_ | refine ehb ?_ | skip); first | exact W_succ hlt hl | (rw [rbox_succ hlt]; done))
                refine ⟨⟨?_, rfl⟩, ?_⟩
                · first | rfl | ((first | refine ei ?_ | refine eh ?_ | refine eb ?_ | refine ehb ?_ | skip); first | exact W_succ hlt hl | (rw [rbox_succ hlt]; done))
                refine ⟨⟨?_, rfl⟩, ?_⟩
                · first | rfl | ((first | refine ei ?_ | refine eh ?_ | refine eb ?_ | refine ehb ?_ | skip); first | exact W_succ hlt hl | (rw [rbox_succ hlt]; done))
                exact trivial
              · refine ⟨⟨?_, rfl, rfl⟩, ?_⟩
                · first | rfl | ((first | refine ei ?_ | refine eh ?_ | refine eb ?_ | refine ehb ?_ | skip); first | exact W_succ hlt hl | (rw [rbox_succ hlt]; done))
                refine ⟨⟨?_, rfl, rfl⟩, ?_⟩
                · first | rfl | ((first | refine ei ?_ | refine eh ?_ | refine eb ?_ | refine ehb ?_ | skip); first | exact W_succ hlt hl | (rw [rbox_succ hlt]; done))
                refine ⟨⟨?_, rfl, rfl⟩, ?_⟩
                · first | rfl | ((first | refine ei ?_ | refine eh ?_ | refine eb ?_ | refine ehb ?_ | skip); first | exact W_succ hlt hl | (rw [rbox_succ hlt]; done))
                refine ⟨⟨?_, rfl, rfl⟩, ?_⟩
                · first | rfl | ((first | refine ei ?_ | refine eh ?_ | refine eb ?_ | refine ehb ?_ | skip); first | exact W_succ hlt hl | (rw [rbox_succ hlt]; done))
                refine ⟨⟨?_, rfl, rfl⟩, ?_⟩
                · first | rfl | ((first | refine ei ?_ | refine eh ?_ | refine eb ?_ | refine ehb ?_ | skip); first | exact W_succ hlt hl | (rw [rbox_succ hlt]; done))
                refine ⟨⟨?_, rfl, rfl⟩, ?_⟩
                · first | rfl | ((first | refine ei ?_ | refine eh ?_ | refine eb ?_ | refine ehb ?_ | skip); first | exact W_succ hlt hl | (rw [rbox_succ hlt]; done))
                refine ⟨⟨?_, rfl, rfl⟩, ?_⟩
                · first | rfl | ((first | refine ei ?_ | refine eh ?_ | refine eb ?_ | refine ehb ?_ | skip); first | exact W_succ hlt hl | (rw [rbox_succ hlt]; done))
                refine ⟨⟨?_, rfl, rfl⟩, ?_⟩
                · first | rfl | ((first | refine ei ?_ | refine eh ?_ | refine eb ?_ | refine ehb ?_ | skip); first | exact W_succ hlt hl | (rw [rbox_succ hlt]; done))
                exact trivial
              · exact trivial))))
      · first
        | (cases hc; done)
        | (
          refine awp_exit ?_
          repeat (first | refine then_exit ?_ | refine inBlock_other rfl ?_)
          refine inBlock_exit ?_
          refine then_normal ?_
          refine awp_seq ?_
          refine awp_region ?_
          refine rv rfl rfl (?_)
          refine rs rfl rfl rfl rfl rfl rfl rfl (?_)
          refine rv rfl rfl (?_)
          refine rn ?_
          refine then_normal ?_
          refine awp_ret ?_
          repeat (first | refine then_ret ?_ | refine inBlock_ret ?_)
          refine rr rfl rfl ?_
          first | exact rof_no (len_zero hc) | exact rof_no (rofB_no (allMay_no hlt (by simpa using hc))) | exact rof_yes (rofB_yes (allMay_end hi (not_lt_len hc)).1 hpos) (allMay_end hi (not_lt_len hc)).2)))
end

theorem of_c' {ps : List Pt} (hl : ps.length ≤ maxLen) : PCall Try.prog 77 [.sl (rows ps)] (· = rofT ps) := ofs_eq ps ▸ of_c hl

end Go.Proofs.Ytngeejjllgnpcaa
