/- Contracts, printed by a program of this session's. -/
import Derived.Test.YtngeejjllgnpcaaS03w
namespace Go.Proofs.Ytngeejjllgnpcaa
open Go.Pv
set_option maxRecDepth 100000
set_option maxHeartbeats 4000000
set_option linter.unusedSimpArgs false
set_option linter.unusedVariables false
set_option linter.unusedSectionVars false

def cn (l : List Pt) (p : Pt) (i : Nat) : Int := ((cnt p ((edges l).take i) : Nat) : Int)
theorem cn_0 (l : List Pt) (p : Pt) : 0 = cn l p 0 := by simp [cn, cnt]
theorem cnt_le (l : List Pt) (p : Pt) (i : Nat) : cnt p ((edges l).take i) ≤ i := by
  have := List.countP_le_length (p := tog p) (l := (edges l).take i)
  rw [List.length_take] at this; unfold cnt; omega
theorem cn_no {l : List Pt} {p : Pt} {i : Nat} (h : i < l.length) (ht : tog p (gp l i, gp l (i + 1)) = false) : cn l p i = cn l p (i + 1) := by
  unfold cn cnt; rw [edges_succ h, List.countP_append]; simp [ht]
theorem cn_yes {l : List Pt} {p : Pt} {i : Nat} (h : i < l.length) (hl : l.length ≤ maxLen) (ht : tog p (gp l i, gp l (i + 1)) = true) : IntKind.wrap .i64 (cn l p i + 1) = cn l p (i + 1) := by
  have h1 := cnt_le l p i
  have h2 : cnt p ((edges l).take (i + 1)) = cnt p ((edges l).take i) + 1 := by
    unfold cnt; rw [edges_succ h, List.countP_append]; simp [ht]
  unfold cn
  rw [W_succ (n := l.length) (by omega) hl, h2]
theorem sg_1 (p q : Int) : (sg p q == 1) = decide (sg p q > 0) := by
  rcases sg_cases p q with h | h | h <;> rw [h] <;> rfl
theorem ins_f {a b p : Pt} (ht : decide (a.2 > b.2) = false) : tog p (a, b) = ((decide (a.2 ≤ p.2) && decide (b.2 > p.2)) && (turnV a.1 a.2 b.1 b.2 p.1 p.2 == 1)) := by
  simp only [decide_eq_false_iff_not] at ht
  unfold tog tn
  rw [show (turnV a.1 a.2 b.1 b.2 p.1 p.2 == 1) = decide (turnV a.1 a.2 b.1 b.2 p.1 p.2 > 0) from sg_1 _ _]
  generalize decide (turnV a.1 a.2 b.1 b.2 p.1 p.2 > 0) = t
  simp only
  by_cases h1 : a.2 ≤ p.2
  · by_cases h2 : b.2 > p.2
    · have e : b.2 > a.2 := by omega
      have : ¬ p.2 < a.2 := by omega
      simp [h1, h2, e, this]
    · have : ¬ p.2 < a.2 := by omega
      simp [h1, h2, this]
  · have e1 : a.2 > p.2 := by omega
    have e2 : b.2 > p.2 := by omega
    simp [h1, e1, e2]
theorem ins_t {a b p : Pt} (ma : my a = true) (mb : my b = true) (mp : my p = true) (hno : onV a.1 a.2 b.1 b.2 p.1 p.2 = false) (ht : decide (a.2 > b.2) = true) : tog p (a, b) = ((decide (b.2 ≤ p.2) && decide (a.2 > p.2)) && (turnV b.1 b.2 a.1 a.2 p.1 p.2 == 1)) := by
  rw [← tog_sw ma mb mp hno]
  refine ins_f ?_
  simp only [decide_eq_true_eq] at ht
  simp only [decide_eq_false_iff_not]; omega
theorem and3_0 {x y z : Bool} (h : x = true) (k : y = true) (m : z = true) : ((x && y) && z) = true := by rw [h, k, m]; rfl
theorem and3_1 {x y z : Bool} (h : x = false) : ((x && y) && z) = false := by rw [h]; rfl
theorem and3_2 {x y z : Bool} (h : y = false) : ((x && y) && z) = false := by rw [h, Bool.and_false]; rfl
theorem and3_3 {x y z : Bool} (h : z = false) : ((x && y) && z) = false := by rw [h, Bool.and_false]
theorem in_end2 {l : List Pt} {p : Pt} {i : Nat} (hi : noOn l p i) (hn : ¬ i < l.length) : (Int.tmod (cn l p i) 2 == 1) = inE l p := by
  rw [← in_end hi hn]
  unfold par cn
  rw [show Int.tmod ((cnt p ((edges l).take i) : Nat) : Int) 2 = ((cnt p ((edges l).take i) % 2 : Nat) : Int) from rfl, Bool.eq_iff_iff]
  simp; omega

section
attribute [local irreducible] awp aops DP PCall ACall Decidable.decide Nat.mod onV turnV cn inE noOn tog
/-- `plover/ploverref01.Inside` -/
theorem rinside_c {l : List Pt} {p : Pt} (hl : l.length ≤ maxLen) (hm : ∀ q ∈ l, my q = true) (hp : my p = true) : PCall Try.prog 20 [.sl (rows l), .agg [.int .i64 (p).1, .int .i64 (p).2]] (· = .bool (inE l p)) := by
  refine pcall_body Try.func20 rfl (by kernel_rfl) (by rfl) ?_
  refine awp_seq ?_
  refine awp_region ?_
  refine rb rfl rfl (?_)
  refine rv rfl rfl (?_)
  refine rn ?_
  refine then_normal ?_
  refine awp_seq ?_
  refine awp_region ?_
  refine rv rfl rfl (?_)
  refine rn ?_
  refine then_normal ?_
  refine awp_seq ?_
  refine awp_seq ?_
  refine awp_region ?_
  refine rv rfl rfl (?_)
  refine rn ?_
  refine then_normal ?_
  refine awp_block ?_
  refine awp_loop (ι := Nat) (fun i => ⟨[(0, .sl (rows l)), (3, .ptr 0 0), (4, .bool false), (5, .int .i64 (cn l p i)), (6, .int .i64 (i : Int))], [(0, 0, .int .i64 p.1), (0, 1, .int .i64 p.2)], [], 1⟩) (fun i => noOn l p i) (fun i => l.length - i) (0) (noOn_0 l p) ?_ (fun _ => Nat.zero_le _) (fun i hi => ?_)
  · refine ⟨Nat.le_of_ble_eq_true rfl, ?_, ?_, ?_⟩
    · refine ⟨⟨?_, rfl⟩, ?_⟩
      · first | rfl | ((first | refine ei ?_ | refine eh ?_ | refine eb ?_ | refine ehb ?_ | skip); exact cn_0 l p)
      refine ⟨⟨?_, rfl⟩, ?_⟩
      · first | rfl | ((first | refine ei ?_ | refine eh ?_ | refine eb ?_ | refine ehb ?_ | skip); exact cn_0 l p)
      refine ⟨⟨?_, rfl⟩, ?_⟩
      · first | rfl | ((first | refine ei ?_ | refine eh ?_ | refine eb ?_ | refine ehb ?_ | skip); exact cn_0 l p)
      refine ⟨⟨?_, rfl⟩, ?_⟩
      · first | rfl | ((first | refine ei ?_ | refine eh ?_ | refine eb ?_ | refine ehb ?_ | skip); exact cn_0 l p)
      refine ⟨⟨?_, rfl⟩, ?_⟩
      · first | rfl | ((first | refine ei ?_ | refine eh ?_ | refine eb ?_ | refine ehb ?_ | skip); exact cn_0 l p)
      exact trivial
    · refine ⟨⟨?_, rfl, rfl⟩, ?_⟩
      · first | rfl | ((first | refine ei ?_ | refine eh ?_ | refine eb ?_ | refine ehb ?_ | skip); exact cn_0 l p)
      refine ⟨⟨?_, rfl, rfl⟩, ?_⟩
      · first | rfl | ((first | refine ei ?_ | refine eh ?_ | refine eb ?_ | refine ehb ?_ | skip); exact cn_0 l p)
      exact trivial
    · exact trivial
  refine awp_seq ?_
  refine awp_seq ?_
  refine awp_region ?_
  refine rv rfl rfl (?_)
  refine rv rfl rfl (?_)
  refine rv rfl rfl (?_)
  refine rv rfl rfl (?_)
  refine rn ?_
  refine then_normal ?_
  refine cs_ rfl (fun hc => ?_) (fun hc => ?_)
  · first
    | (cases hc; done)
    | (
      refine awp_skip ?_
      refine then_normal ?_
      refine awp_seq ?_
      refine awp_block ?_
      refine awp_seq ?_
      (have hlt := lt_len hc) <;> (
      refine awp_region ?_
      refine rv rfl rfl (?_)
      refine rv rfl rfl (?_)
      refine ri rfl rfl rfl rfl rfl rfl (Int.natCast_nonneg _) (rows_i hlt) (rows_wide l) (?_)
      refine rv rfl rfl (?_)
      refine ra rfl rfl rfl (?_)
      refine rs rfl rfl rfl rfl rfl rfl rfl (?_)
      refine rn ?_
      refine then_normal ?_
      refine awp_seq ?_
      refine awp_region ?_
      refine rv rfl rfl (?_)
      refine rv rfl rfl (?_)
      refine rv' rfl (ov_eq rfl (W_sm (k := 1) (by omega))) (?_)
      refine rv rfl rfl (?_)
      refine rv rfl rfl (?_)
      refine rv' rfl (ov_rem rfl rfl (len_ne (by omega)) (tmod_rows l (i + 1))) (?_)
      refine ri rfl rfl rfl rfl rfl rfl (Int.natCast_nonneg _) (rows_gp (by omega) _) (rows_wide l) (?_)
      refine rv rfl rfl (?_)
      refine ra rfl rfl rfl (?_)
      refine rs rfl rfl rfl rfl rfl rfl rfl (?_)
      refine rn ?_
      refine then_normal ?_
      refine awp_seq ?_
      refine awp_region ?_
      refine rv rfl rfl (?_)
      refine rv rfl rfl (?_)
      refine rv rfl rfl (?_)
      refine rc1 rfl rfl rfl ron' (?_)
      refine rv rfl rfl (?_)
      refine rn ?_
      refine then_normal ?_
      refine awp_seq ?_
      refine awp_seq ?_
      refine awp_region ?_
      refine rv rfl rfl (?_)
      refine rn ?_
      refine then_normal ?_
      refine cs_ rfl (fun hc => ?_) (fun hc => ?_)
      · first
        | (cases hc; done)
        | (
          refine awp_seq ?_
          refine awp_region ?_
          refine rv rfl rfl (?_)
          refine rn ?_
          refine then_normal ?_
          refine awp_ret ?_
          repeat (first | refine then_ret ?_ | refine inBlock_ret ?_)
          refine rr rfl rfl ?_
          first | exact in_on hlt (by assumption) | exact eb (in_end2 hi (not_lt_len hc)) | trace_state)
      · first
        | (cases hc; done)
        | (
          refine awp_skip ?_
          refine then_normal ?_
          refine awp_seq ?_
          (have hno : onV (gp l i).1 (gp l i).2 (gp l (i + 1)).1 (gp l (i + 1)).2 p.1 p.2 = false := (by assumption)) <;> (
          refine awp_region ?_
          refine rv rfl rfl (?_)
          refine ra rfl rfl rfl (?_)
          refine rs rfl rfl rfl rfl rfl rfl rfl (?_)
          refine rn ?_
          refine then_normal ?_
          refine awp_seq ?_
          refine awp_region ?_
          refine rv rfl rfl (?_)
          refine ra rfl rfl rfl (?_)
          refine rs rfl rfl rfl rfl rfl rfl rfl (?_)
          refine rn ?_
          refine then_normal ?_
          refine awp_seq ?_
          refine awp_seq ?_
          refine awp_region ?_
          refine rv rfl rfl (?_)
          refine rv rfl rfl (?_)
          refine rv rfl rfl (?_)
          refine rv rfl rfl (?_)
          refine rv rfl rfl (?_)
          refine rn ?_
          refine then_normal ?_
          refine cs_ rfl (fun hc => ?_) (fun hc => ?_)
          · first
            | (cases hc; done)
            | (
              refine awp_seq ?_
              refine awp_region ?_
              refine rv rfl rfl (?_)
              refine rs rfl rfl rfl rfl rfl rfl rfl (?_)
              refine rn ?_
              refine then_normal ?_
              refine awp_region ?_
              refine rv rfl rfl (?_)
              refine rs rfl rfl rfl rfl rfl rfl rfl (?_)
              refine rn ?_
              refine then_normal ?_
              refine awp_seq ?_
              (first | (have q0 : decide ((gp l i).2 > (gp l (i + 1)).2) = true := (by assumption); have htg := ins_t (hm _ (gp_mem (by omega) i)) (hm _ (gp_mem (by omega) (i + 1))) hp hno q0) | (have q0 : decide ((gp l i).2 > (gp l (i + 1)).2) = false := (by assumption); have htg := ins_f (p := p) q0)) <;> (
              refine awp_region ?_
              refine rv rfl rfl (?_)
              refine rv rfl rfl (?_)
              refine rv rfl rfl (?_)
              refine rv rfl rfl (?_)
              refine rv rfl rfl (?_)
              refine rv rfl rfl (?_)
              (first | refine gy rfl rfl rfl (rv rfl rfl (?_)) | refine gn rfl rfl rfl rfl rfl ?_ | refine gu rfl rfl rfl rfl ?_ | refine gs rfl rfl rfl rfl rfl (fun hg => rv rfl rfl (?_)) (fun hg => ?_)) <;> (
              (first | refine gy rfl rfl rfl (rv rfl rfl (?_)) | refine gn rfl rfl rfl rfl rfl ?_ | refine gu rfl rfl rfl rfl ?_ | refine gs rfl rfl rfl rfl rfl (fun hg => rv rfl rfl (?_)) (fun hg => ?_)) <;> (
              (first | refine gy rfl rfl rfl (rv rfl rfl (?_)) | refine gn rfl rfl rfl rfl rfl ?_ | refine gu rfl rfl rfl rfl ?_ | refine gs rfl rfl rfl rfl rfl (fun hg => rv rfl rfl (?_)) (fun hg => ?_)) <;> (
              (first | refine gy rfl rfl rfl (rv rfl rfl (?_)) | refine gn rfl rfl rfl rfl rfl ?_ | refine gu rfl rfl rfl rfl ?_ | refine gs rfl rfl rfl rfl rfl (fun hg => rv rfl rfl (?_)) (fun hg => ?_)) <;> (
              (first | refine gy rfl rfl rfl (rv rfl rfl (?_)) | refine gn rfl rfl rfl rfl rfl ?_ | refine gu rfl rfl rfl rfl ?_ | refine gs rfl rfl rfl rfl rfl (fun hg => rv rfl rfl (?_)) (fun hg => ?_)) <;> (
              refine rv rfl rfl (?_)
              refine rv rfl rfl (?_)
              (first | refine gy rfl rfl rfl (rv rfl rfl (?_)) | refine gn rfl rfl rfl rfl rfl ?_ | refine gu rfl rfl rfl rfl ?_ | refine gs rfl rfl rfl rfl rfl (fun hg => rv rfl rfl (?_)) (fun hg => ?_)) <;> (
              (first | refine gy rfl rfl rfl (rv rfl rfl (?_)) | refine gn rfl rfl rfl rfl rfl ?_ | refine gu rfl rfl rfl rfl ?_ | refine gs rfl rfl rfl rfl rfl (fun hg => rv rfl rfl (?_)) (fun hg => ?_)) <;> (
              (first | refine gy rfl rfl rfl (rv rfl rfl (?_)) | refine gn rfl rfl rfl rfl rfl ?_ | refine gu rfl rfl rfl rfl ?_ | refine gs rfl rfl rfl rfl rfl (fun hg => rv rfl rfl (?_)) (fun hg => ?_)) <;> (
              (first | refine gy rfl rfl rfl (rc1 rfl rfl rfl rturn_c (?_)) | refine gn rfl rfl rfl rfl rfl ?_ | refine gu rfl rfl rfl rfl ?_ | refine gs rfl rfl rfl rfl rfl (fun hg => rc1 rfl rfl rfl rturn_c (?_)) (fun hg => ?_)) <;> (
              (first | refine gy rfl rfl rfl (rv rfl rfl (?_)) | refine gn rfl rfl rfl rfl rfl ?_ | refine gu rfl rfl rfl rfl ?_ | refine gs rfl rfl rfl rfl rfl (fun hg => rv rfl rfl (?_)) (fun hg => ?_)) <;> (
              refine rv rfl rfl (?_)
              refine rn ?_
              refine then_normal ?_
              refine cs_ rfl (fun hc => ?_) (fun hc => ?_)
              · first
                | (cases hc; done)
                | (
                  refine awp_region ?_
                  refine rv rfl rfl (?_)
                  refine rv rfl rfl (?_)
                  refine rv rfl rfl (?_)
                  refine rn ?_
                  refine inBlock_normal ?_
                  refine then_normal ?_
                  refine awp_region ?_
                  refine rv rfl rfl (?_)
                  refine rv rfl rfl (?_)
                  refine rv rfl rfl (?_)
                  refine rn ?_
                  refine then_normal ?_
                  refine ⟨i + 1, noOn_step hi hlt hno, by omega, ?_⟩
                  refine ⟨Nat.le_of_ble_eq_true rfl, ?_, ?_, ?_⟩
                  · refine ⟨⟨?_, rfl⟩, ?_⟩
                    · first | rfl | ((first | refine ei ?_ | refine eh ?_ | refine eb ?_ | refine ehb ?_ | skip); first | exact W_succ hlt hl | exact cn_no hlt (htg.trans (by first | exact and3_1 (by assumption) | exact and3_2 (by assumption) | exact and3_3 (by assumption))) | exact cn_yes hlt hl (htg.trans (and3_0 (by assumption) (by assumption) (by assumption))))
                    refine ⟨⟨?_, rfl⟩, ?_⟩
                    · first | rfl | ((first | refine ei ?_ | refine eh ?_ | refine eb ?_ | refine ehb ?_ | skip); first | exact W_succ hlt hl | exact cn_no hlt (htg.trans (by first | exact and3_1 (by assumption) | exact and3_2 (by assumption) | exact and3_3 (by assumption))) | exact cn_yes hlt hl (htg.trans (and3_0 (by assumption) (by assumption) (by assumption))))
                    refine ⟨⟨?_, rfl⟩, ?_⟩
                    · first | rfl | ((first | refine ei ?_ | refine eh ?_ | refine eb ?_ | refine ehb ?_ | skip); first | exact W_succ hlt hl | exact cn_no hlt (htg.trans (by first | exact and3_1 (by assumption) | exact and3_2 (by assumption) | exact and3_3 (by assumption))) | exact cn_yes hlt hl (htg.trans (and3_0 (by assumption) (by assumption) (by assumption))))
                    refine ⟨⟨?_, rfl⟩, ?_⟩
                    · first | rfl | ((first | refine ei ?_ | refine eh ?_ | refine eb ?_ | refine ehb ?_ | skip); first | exact W_succ hlt hl | exact cn_no hlt (htg.trans (by first | exact and3_1 (by assumption) | exact and3_2 (by assumption) | exact and3_3 (by assumption))) | exact cn_yes hlt hl (htg.trans (and3_0 (by assumption) (by assumption) (by assumption))))
                    refine ⟨⟨?_, rfl⟩, ?_⟩
                    · first | rfl | ((first | refine ei ?_ | refine eh ?_ | refine eb ?_ | refine ehb ?_ | skip); first | exact W_succ hlt hl | exact cn_no hlt (htg.trans (by first | exact and3_1 (by assumption) | exact and3_2 (by assumption) | exact and3_3 (by assumption))) | exact cn_yes hlt hl (htg.trans (and3_0 (by assumption) (by assumption) (by assumption))))
                    exact trivial
                  · refine ⟨⟨?_, rfl, rfl⟩, ?_⟩
                    · first | rfl | ((first | refine ei ?_ | refine eh ?_ | refine eb ?_ | refine ehb ?_ | skip); first | exact W_succ hlt hl | exact cn_no hlt (htg.trans (by first | exact and3_1 (by assumption) | exact and3_2 (by assumption) | exact and3_3 (by assumption))) | exact cn_yes hlt hl (htg.trans (and3_0 (by assumption) (by assumption) (by assumption))))
                    refine ⟨⟨?_, rfl, rfl⟩, ?_⟩
                    · first | rfl | ((first | refine ei ?_ | refine eh ?_ | refine eb ?_ | refine ehb ?_ | skip); first | exact W_succ hlt hl | exact cn_no hlt (htg.trans (by first | exact and3_1 (by assumption) | exact and3_2 (by assumption) | exact and3_3 (by assumption))) | exact cn_yes hlt hl (htg.trans (and3_0 (by assumption) (by assumption) (by assumption))))
                    exact trivial
                  · exact trivial)
              · first
                | (cases hc; done)
                | (
                  refine awp_skip ?_
                  refine inBlock_normal ?_
                  refine then_normal ?_
                  refine awp_region ?_
                  refine rv rfl rfl (?_)
                  refine rv rfl rfl (?_)
                  refine rv rfl rfl (?_)
                  refine rn ?_
                  refine then_normal ?_
                  refine ⟨i + 1, noOn_step hi hlt hno, by omega, ?_⟩
                  refine ⟨Nat.le_of_ble_eq_true rfl, ?_, ?_, ?_⟩
                  · refine ⟨⟨?_, rfl⟩, ?_⟩
                    · first | rfl | ((first | refine ei ?_ | refine eh ?_ | refine eb ?_ | refine ehb ?_ | skip); first | exact W_succ hlt hl | exact cn_no hlt (htg.trans (by first | exact and3_1 (by assumption) | exact and3_2 (by assumption) | exact and3_3 (by assumption))) | exact cn_yes hlt hl (htg.trans (and3_0 (by assumption) (by assumption) (by assumption))))
                    refine ⟨⟨?_, rfl⟩, ?_⟩
                    · first | rfl | ((first | refine ei ?_ | refine eh ?_ | refine eb ?_ | refine ehb ?_ | skip); first | exact W_succ hlt hl | exact cn_no hlt (htg.trans (by first | exact and3_1 (by assumption) | exact and3_2 (by assumption) | exact and3_3 (by assumption))) | exact cn_yes hlt hl (htg.trans (and3_0 (by assumption) (by assumption) (by assumption))))
                    refine ⟨⟨?_, rfl⟩, ?_⟩
                    · first | rfl | ((first | refine ei ?_ | refine eh ?_ | refine eb ?_ | refine ehb ?_ | skip); first | exact W_succ hlt hl | exact cn_no hlt (htg.trans (by first | exact and3_1 (by assumption) | exact and3_2 (by assumption) | exact and3_3 (by assumption))) | exact cn_yes hlt hl (htg.trans (and3_0 (by assumption) (by assumption) (by assumption))))
                    refine ⟨⟨?_, rfl⟩, ?_⟩
                    · first | rfl | ((first | refine ei ?_ | refine eh ?_ | refine eb ?_ | refine ehb ?_ | skip); first | exact W_succ hlt hl | exact cn_no hlt (htg.trans (by first | exact and3_1 (by assumption) | exact and3_2 (by assumption) | exact and3_3 (by assumption))) | exact cn_yes hlt hl (htg.trans (and3_0 (by assumption) (by assumption) (by assumption))))
                    refine ⟨⟨?_, rfl⟩, ?_⟩
                    · first | rfl | ((first | refine ei ?_ | refine eh ?_ | refine eb ?_ | refine ehb ?_ | skip); first | exact W_succ hlt hl | exact cn_no hlt (htg.trans (by first | exact and3_1 (by assumption) | exact and3_2 (by assumption) | exact and3_3 (by assumption))) | exact cn_yes hlt hl (htg.trans (and3_0 (by assumption) (by assumption) (by assumption))))
                    exact trivial
                  · refine ⟨⟨?_, rfl, rfl⟩, ?_⟩
                    · first | rfl | ((first | refine ei ?_ | refine eh ?_ | refine eb ?_ | refine ehb ?_ | skip); first | exact W_succ hlt hl | exact cn_no hlt (htg.trans (by first | exact and3_1 (by assumption) | exact and3_2 (by assumption) | exact and3_3 (by assumption))) | exact cn_yes hlt hl (htg.trans (and3_0 (by assumption) (by assumption) (by assumption))))
                    refine ⟨⟨?_, rfl, rfl⟩, ?_⟩
                    · first | rfl | ((first | refine ei ?_ | refine eh ?_ | refine eb ?_ | refine ehb ?_ | skip); first | exact W_succ hlt hl | exact cn_no hlt (htg.trans (by first | exact and3_1 (by assumption) | exact and3_2 (by assumption) | exact and3_3 (by assumption))) | exact cn_yes hlt hl (htg.trans (and3_0 (by assumption) (by assumption) (by assumption))))
                    exact trivial
                  · exact trivial)))))))))))))
          · first
            | (cases hc; done)
            | (
              refine awp_skip ?_
              refine then_normal ?_
              refine awp_seq ?_
              (first | (have q0 : decide ((gp l i).2 > (gp l (i + 1)).2) = true := (by assumption); have htg := ins_t (hm _ (gp_mem (by omega) i)) (hm _ (gp_mem (by omega) (i + 1))) hp hno q0) | (have q0 : decide ((gp l i).2 > (gp l (i + 1)).2) = false := (by assumption); have htg := ins_f (p := p) q0)) <;> (
              refine awp_region ?_
              refine rv rfl rfl (?_)
              refine rv rfl rfl (?_)
              refine rv rfl rfl (?_)
              refine rv rfl rfl (?_)
              refine rv rfl rfl (?_)
              refine rv rfl rfl (?_)
              (first | refine gy rfl rfl rfl (rv rfl rfl (?_)) | refine gn rfl rfl rfl rfl rfl ?_ | refine gu rfl rfl rfl rfl ?_ | refine gs rfl rfl rfl rfl rfl (fun hg => rv rfl rfl (?_)) (fun hg => ?_)) <;> (
              (first | refine gy rfl rfl rfl (rv rfl rfl (?_)) | refine gn rfl rfl rfl rfl rfl ?_ | refine gu rfl rfl rfl rfl ?_ | refine gs rfl rfl rfl rfl rfl (fun hg => rv rfl rfl (?_)) (fun hg => ?_)) <;> (
              (first | refine gy rfl rfl rfl (rv rfl rfl (?_)) | refine gn rfl rfl rfl rfl rfl ?_ | refine gu rfl rfl rfl rfl ?_ | refine gs rfl rfl rfl rfl rfl (fun hg => rv rfl rfl (?_)) (fun hg => ?_)) <;> (
              (first | refine gy rfl rfl rfl (rv rfl rfl (?_)) | refine gn rfl rfl rfl rfl rfl ?_ | refine gu rfl rfl rfl rfl ?_ | refine gs rfl rfl rfl rfl rfl (fun hg => rv rfl rfl (?_)) (fun hg => ?_)) <;> (
              (first | refine gy rfl rfl rfl (rv rfl rfl (?_)) | refine gn rfl rfl rfl rfl rfl ?_ | refine gu rfl rfl rfl rfl ?_ | refine gs rfl rfl rfl rfl rfl (fun hg => rv rfl rfl (?_)) (fun hg => ?_)) <;> (
              refine rv rfl rfl (?_)
              refine rv rfl rfl (?_)
              (first | refine gy rfl rfl rfl (rv rfl rfl (?_)) | refine gn rfl rfl rfl rfl rfl ?_ | refine gu rfl rfl rfl rfl ?_ | refine gs rfl rfl rfl rfl rfl (fun hg => rv rfl rfl (?_)) (fun hg => ?_)) <;> (
              (first | refine gy rfl rfl rfl (rv rfl rfl (?_)) | refine gn rfl rfl rfl rfl rfl ?_ | refine gu rfl rfl rfl rfl ?_ | refine gs rfl rfl rfl rfl rfl (fun hg => rv rfl rfl (?_)) (fun hg => ?_)) <;> (
              (first | refine gy rfl rfl rfl (rv rfl rfl (?_)) | refine gn rfl rfl rfl rfl rfl ?_ | refine gu rfl rfl rfl rfl ?_ | refine gs rfl rfl rfl rfl rfl (fun hg => rv rfl rfl (?_)) (fun hg => ?_)) <;> (
              (first | refine gy rfl rfl rfl (rc1 rfl rfl rfl rturn_c (?_)) | refine gn rfl rfl rfl rfl rfl ?_ | refine gu rfl rfl rfl rfl ?_ | refine gs rfl rfl rfl rfl rfl (fun hg => rc1 rfl rfl rfl rturn_c (?_)) (fun hg => ?_)) <;> (
              (first | refine gy rfl rfl rfl (rv rfl rfl (?_)) | refine gn rfl rfl rfl rfl rfl ?_ | refine gu rfl rfl rfl rfl ?_ | refine gs rfl rfl rfl rfl rfl (fun hg => rv rfl rfl (?_)) (fun hg => ?_)) <;> (
              refine rv rfl rfl (?_)
              refine rn ?_
              refine then_normal ?_
              refine cs_ rfl (fun hc => ?_) (fun hc => ?_)
              · first
                | (cases hc; done)
                | (
                  refine awp_region ?_
                  refine rv rfl rfl (?_)
                  refine rv rfl rfl (?_)
                  refine rv rfl rfl (?_)
                  refine rn ?_
                  refine inBlock_normal ?_
                  refine then_normal ?_
                  refine awp_region ?_
                  refine rv rfl rfl (?_)
                  refine rv rfl rfl (?_)
                  refine rv rfl rfl (?_)
                  refine rn ?_
                  refine then_normal ?_
                  refine ⟨i + 1, noOn_step hi hlt hno, by omega, ?_⟩
                  refine ⟨Nat.le_of_ble_eq_true rfl, ?_, ?_, ?_⟩
                  · refine ⟨⟨?_, rfl⟩, ?_⟩
                    · first | rfl | ((first | refine ei ?_ | refine eh ?_ | refine eb ?_ | refine ehb ?_ | skip); first | exact W_succ hlt hl | exact cn_no hlt (htg.trans (by first | exact and3_1 (by assumption) | exact and3_2 (by assumption) | exact and3_3 (by assumption))) | exact cn_yes hlt hl (htg.trans (and3_0 (by assumption) (by assumption) (by assumption))))
                    refine ⟨⟨?_, rfl⟩, ?_⟩
                    · first | rfl | ((first | refine ei ?_ | refine eh ?_ | refine eb ?_ | refine ehb ?_ | skip); first | exact W_succ hlt hl | exact cn_no hlt (htg.trans (by first | exact and3_1 (by assumption) | exact and3_2 (by assumption) | exact and3_3 (by assumption))) | exact cn_yes hlt hl (htg.trans (and3_0 (by assumption) (by assumption) (by assumption))))
                    refine ⟨⟨?_, rfl⟩, ?_⟩
                    · first | rfl | ((first | refine ei ?_ | refine eh ?_ | refine eb ?_ | refine ehb ?_ | skip); first | exact W_succ hlt hl | exact cn_no hlt (htg.trans (by first | exact and3_1 (by assumption) | exact and3_2 (by assumption) | exact and3_3 (by assumption))) | exact cn_yes hlt hl (htg.trans (and3_0 (by assumption) (by assumption) (by assumption))))
                    refine ⟨⟨?_, rfl⟩, ?_⟩
                    · first | rfl | ((first | refine ei ?_ | refine eh ?_ | refine eb ?_ | refine ehb ?_ | skip); first | exact W_succ hlt hl | exact cn_no hlt (htg.trans (by first | exact and3_1 (by assumption) | exact and3_2 (by assumption) | exact and3_3 (by assumption))) | exact cn_yes hlt hl (htg.trans (and3_0 (by assumption) (by assumption) (by assumption))))
                    refine ⟨⟨?_, rfl⟩, ?_⟩
                    · first | rfl | ((first | refine ei ?_ | refine eh ?_ | refine eb ?_ | refine ehb ?_ | skip); first | exact W_succ hlt hl | exact cn_no hlt (htg.trans (by first | exact and3_1 (by assumption) | exact and3_2 (by assumption) | exact and3_3 (by assumption))) | exact cn_yes hlt hl (htg.trans (and3_0 (by assumption) (by assumption) (by assumption))))
                    exact trivial
                  · refine ⟨⟨?_, rfl, rfl⟩, ?_⟩
                    · first | rfl | ((first | refine ei ?_ | refine eh ?_ | refine eb ?_ | refine ehb ?_ | skip); first | exact W_succ hlt hl | exact cn_no hlt (htg.trans (by first | exact and3_1 (by assumption) | exact and3_2 (by assumption) | exact and3_3 (by assumption))) | exact cn_yes hlt hl (htg.trans (and3_0 (by assumption) (by assumption) (by assumption))))
                    refine ⟨⟨?_, rfl, rfl⟩, ?_⟩
                    · first | rfl | ((first | refine ei ?_ | refine eh ?_ | refine eb ?_ | refine ehb ?_ | skip); first | exact W_succ hlt hl | exact cn_no hlt (htg.trans (by first | exact and3_1 (by assumption) | exact and3_2 (by assumption) | exact and3_3 (by assumption))) | exact cn_yes hlt hl (htg.trans (and3_0 (by assumption) (by assumption) (by assumption))))
                    exact trivial
                  · exact trivial)
              · first
                | (cases hc; done)
                | (
                  refine awp_skip ?_
                  refine inBlock_normal ?_
                  refine then_normal ?_
                  refine awp_region ?_
                  refine rv rfl rfl (?_)
                  refine rv rfl rfl (?_)
                  refine rv rfl rfl (?_)
                  refine rn ?_
                  refine then_normal ?_
                  refine ⟨i + 1, noOn_step hi hlt hno, by omega, ?_⟩
                  refine ⟨Nat.le_of_ble_eq_true rfl, ?_, ?_, ?_⟩
                  · refine ⟨⟨?_, rfl⟩, ?_⟩
                    · first | rfl | ((first | refine ei ?_ | refine eh ?_ | refine eb ?_ | refine ehb ?_ | skip); first | exact W_succ hlt hl | exact cn_no hlt (htg.trans (by first | exact and3_1 (by assumption) | exact and3_2 (by assumption) | exact and3_3 (by assumption))) | exact cn_yes hlt hl (htg.trans (and3_0 (by assumption) (by assumption) (by assumption))))
                    refine ⟨⟨?_, rfl⟩, ?_⟩
                    · first | rfl | ((first | refine ei ?_ | refine eh ?_ | refine eb ?_ | refine ehb ?_ | skip); first | exact W_succ hlt hl | exact cn_no hlt (htg.trans (by first | exact and3_1 (by assumption) | exact and3_2 (by assumption) | exact and3_3 (by assumption))) | exact cn_yes hlt hl (htg.trans (and3_0 (by assumption) (by assumption) (by assumption))))
                    refine ⟨⟨?_, rfl⟩, ?_⟩
                    · first | rfl | ((first | refine ei ?_ | refine eh ?_ | refine eb ?_ | refine ehb ?_ | skip); first | exact W_succ hlt hl | exact cn_no hlt (htg.trans (by first | exact and3_1 (by assumption) | exact and3_2 (by assumption) | exact and3_3 (by assumption))) | exact cn_yes hlt hl (htg.trans (and3_0 (by assumption) (by assumption) (by assumption))))
                    refine ⟨⟨?_, rfl⟩, ?_⟩
                    · first | rfl | ((first | refine ei ?_ | refine eh ?_ | refine eb ?_ | refine ehb ?_ | skip); first | exact W_succ hlt hl | exact cn_no hlt (htg.trans (by first | exact and3_1 (by assumption) | exact and3_2 (by assumption) | exact and3_3 (by assumption))) | exact cn_yes hlt hl (htg.trans (and3_0 (by assumption) (by assumption) (by assumption))))
                    refine ⟨⟨?_, rfl⟩, ?_⟩
                    · first | rfl | ((first | refine ei ?_ | refine eh ?_ | refine eb ?_ | refine ehb ?_ | skip); first | exact W_succ hlt hl | exact cn_no hlt (htg.trans (by first | exact and3_1 (by assumption) | exact and3_2 (by assumption) | exact and3_3 (by assumption))) | exact cn_yes hlt hl (htg.trans (and3_0 (by assumption) (by assumption) (by assumption))))
                    exact trivial
                  · refine ⟨⟨?_, rfl, rfl⟩, ?_⟩
                    · first | rfl | ((first | refine ei ?_ | refine eh ?_ | refine eb ?_ | refine ehb ?_ | skip); first | exact W_succ hlt hl | exact cn_no hlt (htg.trans (by first | exact and3_1 (by assumption) | exact and3_2 (by assumption) | exact and3_3 (by assumption))) | exact cn_yes hlt hl (htg.trans (and3_0 (by assumption) (by assumption) (by assumption))))
                    refine ⟨⟨?_, rfl, rfl⟩, ?_⟩
                    · first | rfl | ((first | refine ei ?_ | refine eh ?_ | refine eb ?_ | refine ehb ?_ | skip); first | exact W_succ hlt hl | exact cn_no hlt (htg.trans (by first | exact and3_1 (by assumption) | exact and3_2 (by assumption) | exact and3_3 (by assumption))) | exact cn_yes hlt hl (htg.trans (and3_0 (by assumption) (by assumption) (by assumption))))
                    exact trivial
                  · exact trivial)))))))))))))))))
  · first
    | (cases hc; done)
    | (
      refine awp_exit ?_
      repeat (first | refine then_exit ?_ | refine inBlock_other rfl ?_)
      refine inBlock_exit ?_
      refine then_normal ?_
      refine awp_seq ?_
      refine awp_region ?_
      refine rv rfl rfl (?_)
      refine rv rfl rfl (?_)
      refine rv rfl rfl (?_)
      refine rv rfl rfl (?_)
      refine rn ?_
      refine then_normal ?_
      refine awp_ret ?_
      repeat (first | refine then_ret ?_ | refine inBlock_ret ?_)
      refine rr rfl rfl ?_
      first | exact in_on hlt (by assumption) | exact eb (in_end2 hi (not_lt_len hc)) | trace_state)
end

end Go.Proofs.Ytngeejjllgnpcaa
