/- Contracts, printed by a program of this session's. -/
import Derived.Test.YtngeejjllgnpcaaS03s
import Derived.Test.YtngeejjllgnpcaaPwD
namespace Go.Proofs.Ytngeejjllgnpcaa
open Go.Pv
set_option maxRecDepth 100000
set_option maxHeartbeats 4000000
set_option linter.unusedSimpArgs false
set_option linter.unusedVariables false
set_option linter.unusedSectionVars false

theorem rows_gp {l : List Pt} (h0 : 0 < l.length) (i : Nat) : (rows l)[(((i % l.length : Nat) : Int)).toNat]? = some [.int .i64 (gp l i).1, .int .i64 (gp l i).2] := by
  rw [rows_get (Nat.mod_lt i h0), ← gp_mod l i, gp_lt (Nat.mod_lt i h0)]
theorem rows_i {l : List Pt} {i : Nat} (h : i < l.length) : (rows l)[((i : Int)).toNat]? = some [.int .i64 (gp l i).1, .int .i64 (gp l i).2] := by
  rw [rows_get h, gp_lt h]
theorem tmod_rows (l : List Pt) (i : Nat) : Int.tmod (i : Int) ((rows l).length : Int) = ((i % l.length : Nat) : Int) := by rw [rows_len]; rfl
theorem len_ne {l : List Pt} (h0 : 0 < l.length) : ((rows l).length : Int) ≠ 0 := by rw [rows_len]; omega
theorem W_sm {i k : Nat} (h : i + k ≤ maxLen) : IntKind.wrap .i64 ((i : Int) + (k : Int)) = ((i + k : Nat) : Int) := by
  have := W_id (n := (i : Int) + (k : Int)) (by unfold maxLen at h; omega)
  rw [W] at this; rw [this]; rfl
/-- The place of the first that it holds of. -/
def fixP (f : Pt → Bool) (l : List Pt) : Int := match l.findIdx? f with
  | some i => (i : Int)
  | none => -1
theorem find_hit {f : Pt → Bool} : ∀ {l : List Pt} {i : Nat} (h : i < l.length), (l.take i).any f = false → f (l[i]) = true → l.findIdx? f = some i
  | a :: l, 0, _, _, hf => by simp only [List.getElem_cons_zero] at hf; simp [List.findIdx?_cons, hf]
  | a :: l, i + 1, h, hn, hf => by
    simp only [List.take_succ_cons, List.any_cons, Bool.or_eq_false_iff] at hn
    simp only [List.getElem_cons_succ] at hf
    have := find_hit (l := l) (i := i) (by simpa using h) hn.2 hf
    simp [List.findIdx?_cons, hn.1, this]
theorem fix_hit {f : Pt → Bool} {l : List Pt} {i : Nat} (h : i < l.length) (hn : (l.take i).any f = false) (hf : f (gp l i) = true) : fixP f l = i := by
  unfold fixP; rw [gp_lt h] at hf; rw [find_hit h hn hf]
theorem fix_none {f : Pt → Bool} {l : List Pt} (h : l.any f = false) : fixP f l = -1 := by
  unfold fixP
  have : l.findIdx? f = none := by
    rw [List.findIdx?_eq_none_iff]; intro x hx; simpa using List.any_eq_false.1 h x hx
  rw [this]
theorem fix_ge (f : Pt → Bool) (l : List Pt) : decide (fixP f l ≥ 0) = l.any f := by
  cases h : l.any f with
  | false => rw [fix_none h]; rfl
  | true =>
    unfold fixP
    cases hf : l.findIdx? f with
    | some i => simp
    | none =>
      rw [List.findIdx?_eq_none_iff] at hf
      obtain ⟨x, hx, hx2⟩ := List.any_eq_true.1 h
      have := hf x hx; simp [hx2] at this
theorem any_succ {f : Pt → Bool} {l : List Pt} {i : Nat} (h : i < l.length) (hn : (l.take i).any f = false) (hf : f (gp l i) = false) : (l.take (i + 1)).any f = false := by
  rw [List.take_add_one, List.getElem?_eq_getElem h, List.any_append, hn]
  rw [gp_lt h] at hf; simp [hf]
theorem any_end {f : Pt → Bool} {l : List Pt} {i : Nat} (hn : i ≤ l.length ∧ (l.take i).any f = false) (h : ¬ i < l.length) : l.any f = false := by
  have : i = l.length := by omega
  subst this; simpa using hn.2
def eqP (a b : Pt) : Bool := a.1 == b.1 && a.2 == b.2
theorem eqP_iff {a b : Pt} : eqP a b = true ↔ a = b := by
  unfold eqP
  simp only [Bool.and_eq_true, beq_iff_eq]
  exact ⟨fun h => Prod.ext h.1 h.2, fun h => by rw [h]; exact ⟨rfl, rfl⟩⟩
def mayN (p : Pt) : Bool := !my p
theorem any_mayN (l : List Pt) : l.any mayN = !l.all my := by
  induction l with
  | nil => rfl
  | cons a l ih => simp only [List.any_cons, List.all_cons, ih, mayN, Bool.not_and]

section
attribute [local irreducible] awp aops DP PCall ACall Decidable.decide
/-- `plover/poly.next` -/
theorem next_c {l : List Pt} {i : Nat} (h0 : 0 < l.length) (hi : i + 1 ≤ maxLen) : PCall Try.prog 68 [.sl (rows l), .int .i64 ((i : Nat) : Int)] (· = .agg [.int .i64 (gp l (i + 1)).1, .int .i64 (gp l (i + 1)).2]) := by
  refine pcall_body Try.func68 rfl (by kernel_rfl) (by rfl) ?_
  refine awp_seq ?_
  refine awp_region ?_
  refine ra rfl rfl rfl (?_)
  refine rn ?_
  refine then_normal ?_
  refine awp_seq ?_
  refine awp_region ?_
  refine rv rfl rfl (?_)
  refine rv rfl rfl (?_)
  refine rv' rfl (ov_eq rfl (W_sm (k := 1) hi)) (?_)
  refine rv rfl rfl (?_)
  refine rv rfl rfl (?_)
  refine rv' rfl (ov_rem rfl rfl (len_ne h0) (tmod_rows l (i + 1))) (?_)
  refine ri rfl rfl rfl rfl rfl rfl (Int.natCast_nonneg _) (rows_gp h0 _) (rows_wide l) (?_)
  refine rv rfl rfl (?_)
  refine rs rfl rfl rfl rfl rfl rfl rfl (?_)
  refine rn ?_
  refine then_normal ?_
  refine awp_ret ?_
  repeat (first | refine then_ret ?_ | refine inBlock_ret ?_)
  refine rr rfl rfl ?_
  first | rfl | (simp [*]; done) | (simp []; done) | (simp [*]; done) | (simp_all []; done)
end

section
attribute [local irreducible] awp aops DP PCall ACall Decidable.decide
/-- `plover/poly.neighbours` -/
theorem neigh_c {a b c : Pt} : PCall Try.prog 67 [.agg [.int .i64 (a).1, .int .i64 (a).2], .agg [.int .i64 (b).1, .int .i64 (b).2], .agg [.int .i64 (c).1, .int .i64 (c).2]] (· = .bool (on a b c || on b c a)) := by
  refine pcall_body Try.func67 rfl (by kernel_rfl) (by rfl) ?_
  refine awp_seq ?_
  refine awp_region ?_
  refine rb rfl rfl (?_)
  refine rb rfl rfl (?_)
  refine rb rfl rfl (?_)
  refine rv rfl rfl (?_)
  refine rn ?_
  refine then_normal ?_
  refine awp_seq ?_
  refine awp_region ?_
  refine rv rfl rfl (?_)
  refine rv rfl rfl (?_)
  refine rv rfl rfl (?_)
  refine rc1 rfl rfl rfl on_c (?_)
  refine rv rfl rfl (?_)
  (first | refine gy rfl rfl rfl (rv rfl rfl (?_)) | refine gn rfl rfl rfl rfl rfl ?_ | refine gu rfl rfl rfl rfl ?_ | refine gs rfl rfl rfl rfl rfl (fun hg => rv rfl rfl (?_)) (fun hg => ?_)) <;> (
  (first | refine gy rfl rfl rfl (rv rfl rfl (?_)) | refine gn rfl rfl rfl rfl rfl ?_ | refine gu rfl rfl rfl rfl ?_ | refine gs rfl rfl rfl rfl rfl (fun hg => rv rfl rfl (?_)) (fun hg => ?_)) <;> (
  (first | refine gy rfl rfl rfl (rv rfl rfl (?_)) | refine gn rfl rfl rfl rfl rfl ?_ | refine gu rfl rfl rfl rfl ?_ | refine gs rfl rfl rfl rfl rfl (fun hg => rv rfl rfl (?_)) (fun hg => ?_)) <;> (
  (first | refine gy rfl rfl rfl (rc1 rfl rfl rfl on_c (?_)) | refine gn rfl rfl rfl rfl rfl ?_ | refine gu rfl rfl rfl rfl ?_ | refine gs rfl rfl rfl rfl rfl (fun hg => rc1 rfl rfl rfl on_c (?_)) (fun hg => ?_)) <;> (
  refine rv rfl rfl (?_)
  refine rv rfl rfl (?_)
  refine rn ?_
  refine then_normal ?_
  refine awp_ret ?_
  repeat (first | refine then_ret ?_ | refine inBlock_ret ?_)
  refine rr rfl rfl ?_
  first | rfl | (simp [*]; done) | (simp [on]; done) | (simp [on, *]; done) | (simp_all [on]; done)))))
end

section
attribute [local irreducible] awp aops DP PCall ACall Decidable.decide
/-- `plover/poly.Simple$1` -/
theorem simple1_c {p : Pt} : PCall Try.prog 65 [.agg [.int .i64 (p).1, .int .i64 (p).2]] (· = .bool (mayN p)) := by
  refine pcall_body Try.func65 rfl (by kernel_rfl) (by rfl) ?_
  refine awp_seq ?_
  refine awp_region ?_
  refine rb rfl rfl (?_)
  refine rv rfl rfl (?_)
  refine rn ?_
  refine then_normal ?_
  refine awp_seq ?_
  refine awp_region ?_
  refine rv rfl rfl (?_)
  refine rc1 rfl rfl rfl mayP_c (?_)
  refine rv rfl rfl (?_)
  refine rv rfl rfl (?_)
  refine rn ?_
  refine then_normal ?_
  refine awp_ret ?_
  repeat (first | refine then_ret ?_ | refine inBlock_ret ?_)
  refine rr rfl rfl ?_
  first | rfl | (simp [*]; done) | (simp [mayN, my]; done) | (simp [mayN, my, *]; done) | (simp_all [mayN, my]; done)
end

section
attribute [local irreducible] awp aops DP PCall ACall Decidable.decide
/-- `slices.IndexFunc[[]plover/api.Point,plover/api.Point]` -/
theorem ixf_c {l : List Pt} (hl : l.length ≤ maxLen) : PCall Try.prog 99 [.sl (rows l), .fn 65 []] (· = .int .i64 (fixP mayN l)) := by
  refine pcall_body Try.func99 rfl (by kernel_rfl) (by rfl) ?_
  refine awp_seq ?_
  refine awp_region ?_
  refine rv rfl rfl (?_)
  refine rn ?_
  refine then_normal ?_
  refine awp_seq ?_
  refine awp_seq ?_
  refine awp_region ?_
  refine rv rfl rfl (?_)
  refine rv rfl rfl (?_)
  refine rv rfl rfl (?_)
  refine rn ?_
  refine then_normal ?_
  refine awp_block ?_
  refine awp_loop (ι := Nat) (fun i => ⟨[(0, .sl (rows l)), (1, .fn 65 []), (6, .sl (rows l)), (7, .int .i64 ((rows l).length : Int)), (8, .int .i64 (i : Int))], [], [], 0⟩) (fun i => i ≤ l.length ∧ (l.take i).any mayN = false) (fun i => l.length - i) (0) (⟨Nat.zero_le _, rfl⟩) ?_ (fun _ => Nat.zero_le _) (fun i hi => ?_)
  · refine ⟨Nat.le_of_ble_eq_true rfl, ?_, ?_, ?_⟩
    · refine ⟨⟨?_, rfl⟩, ?_⟩
      · first | rfl | ((first | refine ei ?_ | refine eh ?_ | refine eb ?_ | refine ehb ?_ | skip); exact W_succ hlt hl)
      refine ⟨⟨?_, rfl⟩, ?_⟩
      · first | rfl | ((first | refine ei ?_ | refine eh ?_ | refine eb ?_ | refine ehb ?_ | skip); exact W_succ hlt hl)
      refine ⟨⟨?_, rfl⟩, ?_⟩
      · first | rfl | ((first | refine ei ?_ | refine eh ?_ | refine eb ?_ | refine ehb ?_ | skip); exact W_succ hlt hl)
      refine ⟨⟨?_, rfl⟩, ?_⟩
      · first | rfl | ((first | refine ei ?_ | refine eh ?_ | refine eb ?_ | refine ehb ?_ | skip); exact W_succ hlt hl)
      refine ⟨⟨?_, rfl⟩, ?_⟩
      · first | rfl | ((first | refine ei ?_ | refine eh ?_ | refine eb ?_ | refine ehb ?_ | skip); exact W_succ hlt hl)
      exact trivial
    · exact trivial
    · exact trivial
  refine awp_seq ?_
  refine awp_region ?_
  refine rv rfl rfl (?_)
  refine rn ?_
  refine then_normal ?_
  refine awp_seq ?_
  refine cs_ rfl (fun hc => ?_) (fun hc => ?_)
  · first
    | (cases hc; done)
    | (
      refine awp_skip ?_
      refine then_normal ?_
      refine awp_seq ?_
      refine awp_block ?_
      refine awp_seq ?_
      (have hlt := lt_len hc) <;> (
      refine awp_region ?_
      refine rv rfl rfl (?_)
      refine rv rfl rfl (?_)
      refine rn ?_
      refine then_normal ?_
      refine awp_seq ?_
      refine awp_region ?_
      refine rv rfl rfl (?_)
      refine rv rfl rfl (?_)
      refine rv rfl rfl (?_)
      refine ri rfl rfl rfl rfl rfl rfl (Int.natCast_nonneg i) (rows_i hlt) (rows_wide l) (?_)
      refine rv rfl rfl (?_)
      refine rc1 rfl rfl rfl simple1_c (?_)
      refine rn ?_
      refine then_normal ?_
      refine cs_ rfl (fun hc => ?_) (fun hc => ?_)
      · first
        | (cases hc; done)
        | (
          refine awp_seq ?_
          refine awp_region ?_
          refine rv rfl rfl (?_)
          refine rv rfl rfl (?_)
          refine rn ?_
          refine then_normal ?_
          refine awp_ret ?_
          repeat (first | refine then_ret ?_ | refine inBlock_ret ?_)
          refine rr rfl rfl ?_
          first | exact ei (fix_hit hlt hi.2 (by assumption)).symm | exact ei (fix_none (any_end hi (not_lt_len hc))).symm)
      · first
        | (cases hc; done)
        | (
          refine awp_skip ?_
          refine inBlock_normal ?_
          refine then_normal ?_
          refine awp_region ?_
          refine rv rfl rfl (?_)
          refine rv rfl rfl (?_)
          refine rn ?_
          refine then_normal ?_
          refine ⟨i + 1, ⟨hlt, any_succ hlt hi.2 (by assumption)⟩, by omega, ?_⟩
          refine ⟨Nat.le_of_ble_eq_true rfl, ?_, ?_, ?_⟩
          · refine ⟨⟨?_, rfl⟩, ?_⟩
            · first | rfl | ((first | refine ei ?_ | refine eh ?_ | refine eb ?_ | refine ehb ?_ | skip); exact W_succ hlt hl)
            refine ⟨⟨?_, rfl⟩, ?_⟩
            · first | rfl | ((first | refine ei ?_ | refine eh ?_ | refine eb ?_ | refine ehb ?_ | skip); exact W_succ hlt hl)
            refine ⟨⟨?_, rfl⟩, ?_⟩
            · first | rfl | ((first | refine ei ?_ | refine eh ?_ | refine eb ?_ | refine ehb ?_ | skip); exact W_succ hlt hl)
            refine ⟨⟨?_, rfl⟩, ?_⟩
            · first | rfl | ((first | refine ei ?_ | refine eh ?_ | refine eb ?_ | refine ehb ?_ | skip); exact W_succ hlt hl)
            refine ⟨⟨?_, rfl⟩, ?_⟩
            · first | rfl | ((first | refine ei ?_ | refine eh ?_ | refine eb ?_ | refine ehb ?_ | skip); exact W_succ hlt hl)
            exact trivial
          · exact trivial
          · exact trivial)))
  · first
    | (cases hc; done)
    | (
      refine awp_exit ?_
      repeat (first | refine then_exit ?_ | refine inBlock_other rfl ?_)
      refine inBlock_exit ?_
      refine then_normal ?_
      refine awp_seq ?_
      refine awp_region ?_
      refine rv rfl rfl (?_)
      refine rn ?_
      refine then_normal ?_
      refine awp_ret ?_
      repeat (first | refine then_ret ?_ | refine inBlock_ret ?_)
      refine rr rfl rfl ?_
      first | exact ei (fix_hit hlt hi.2 (by assumption)).symm | exact ei (fix_none (any_end hi (not_lt_len hc))).symm)
end

section
attribute [local irreducible] awp aops DP PCall ACall Decidable.decide
/-- `slices.ContainsFunc[[]plover/api.Point,plover/api.Point]` -/
theorem cf_c {l : List Pt} (hl : l.length ≤ maxLen) : PCall Try.prog 64 [.sl (rows l), .fn 65 []] (· = .bool (l.any mayN)) := by
  refine pcall_body Try.func64 rfl (by kernel_rfl) (by rfl) ?_
  refine awp_seq ?_
  refine awp_region ?_
  refine rv rfl rfl (?_)
  refine rn ?_
  refine then_normal ?_
  refine awp_seq ?_
  refine awp_region ?_
  refine rv rfl rfl (?_)
  refine rv rfl rfl (?_)
  refine rc1 rfl rfl rfl (ixf_c hl) (?_)
  refine rv rfl rfl (?_)
  refine rv rfl rfl (?_)
  refine rn ?_
  refine then_normal ?_
  refine awp_ret ?_
  repeat (first | refine then_ret ?_ | refine inBlock_ret ?_)
  refine rr rfl rfl ?_
  exact eb (fix_ge _ _)
end

section
attribute [local irreducible] awp aops DP PCall ACall Decidable.decide
/-- `slices.Index[[]plover/api.Point,plover/api.Point]` -/
theorem ix_c {l : List Pt} {v : Pt} (hl : l.length ≤ maxLen) : PCall Try.prog 101 [.sl (rows l), .agg [.int .i64 (v).1, .int .i64 (v).2]] (· = .int .i64 (fixP (eqP v) l)) := by
  refine pcall_body Try.func101 rfl (by kernel_rfl) (by rfl) ?_
  refine awp_seq ?_
  refine awp_region ?_
  refine rb rfl rfl (?_)
  refine rv rfl rfl (?_)
  refine rn ?_
  refine then_normal ?_
  refine awp_seq ?_
  refine awp_seq ?_
  refine awp_region ?_
  refine rv rfl rfl (?_)
  refine rv rfl rfl (?_)
  refine rv rfl rfl (?_)
  refine rn ?_
  refine then_normal ?_
  refine awp_block ?_
  refine awp_loop (ι := Nat) (fun i => ⟨[(0, .sl (rows l)), (3, .ptr 0 0), (6, .sl (rows l)), (7, .int .i64 ((rows l).length : Int)), (8, .int .i64 (i : Int))], [(0, 0, .int .i64 v.1), (0, 1, .int .i64 v.2)], [], 1⟩) (fun i => i ≤ l.length ∧ (l.take i).any (eqP v) = false) (fun i => l.length - i) (0) (⟨Nat.zero_le _, rfl⟩) ?_ (fun _ => Nat.zero_le _) (fun i hi => ?_)
  · refine ⟨Nat.le_of_ble_eq_true rfl, ?_, ?_, ?_⟩
    · refine ⟨⟨?_, rfl⟩, ?_⟩
      · first | rfl | ((first | refine ei ?_ | refine eh ?_ | refine eb ?_ | refine ehb ?_ | skip); exact W_succ hlt hl)
      refine ⟨⟨?_, rfl⟩, ?_⟩
      · first | rfl | ((first | refine ei ?_ | refine eh ?_ | refine eb ?_ | refine ehb ?_ | skip); exact W_succ hlt hl)
      refine ⟨⟨?_, rfl⟩, ?_⟩
      · first | rfl | ((first | refine ei ?_ | refine eh ?_ | refine eb ?_ | refine ehb ?_ | skip); exact W_succ hlt hl)
      refine ⟨⟨?_, rfl⟩, ?_⟩
      · first | rfl | ((first | refine ei ?_ | refine eh ?_ | refine eb ?_ | refine ehb ?_ | skip); exact W_succ hlt hl)
      refine ⟨⟨?_, rfl⟩, ?_⟩
      · first | rfl | ((first | refine ei ?_ | refine eh ?_ | refine eb ?_ | refine ehb ?_ | skip); exact W_succ hlt hl)
      exact trivial
    · refine ⟨⟨?_, rfl, rfl⟩, ?_⟩
      · first | rfl | ((first | refine ei ?_ | refine eh ?_ | refine eb ?_ | refine ehb ?_ | skip); exact W_succ hlt hl)
      refine ⟨⟨?_, rfl, rfl⟩, ?_⟩
      · first | rfl | ((first | refine ei ?_ | refine eh ?_ | refine eb ?_ | refine ehb ?_ | skip); exact W_succ hlt hl)
      exact trivial
    · exact trivial
  refine awp_seq ?_
  refine awp_region ?_
  refine rv rfl rfl (?_)
  refine rn ?_
  refine then_normal ?_
  refine awp_seq ?_
  refine cs_ rfl (fun hc => ?_) (fun hc => ?_)
  · first
    | (cases hc; done)
    | (
      refine awp_skip ?_
      refine then_normal ?_
      refine awp_seq ?_
      refine awp_block ?_
      refine awp_seq ?_
      (have hlt := lt_len hc) <;> (
      refine awp_region ?_
      refine rv rfl rfl (?_)
      refine rv rfl rfl (?_)
      refine rn ?_
      refine then_normal ?_
      refine awp_seq ?_
      refine awp_dp (m := 6) Try.mix (by kernel_rfl) (by kernel_rfl) (by kernel_rfl) (by kernel_rfl) (by kernel_rfl) (by kernel_rfl) (by kernel_rfl) ?_
      refine dv rfl rfl (fun _ => rfl) ?_
      refine dv rfl rfl (fun _ => rfl) ?_
      refine dv rfl rfl (fun _ => rfl) ?_
      refine di rfl rfl rfl rfl rfl (fun _ => rfl) rfl (Int.natCast_nonneg i) (rows_i hlt) (rows_wide l) ?_
      refine dv rfl rfl (fun _ => rfl) ?_
      refine dv rfl rfl (fun _ => rfl) ?_
      refine dn ?_
      refine rn ?_
      refine then_normal ?_
      refine cs_ rfl (fun hc => ?_) (fun hc => ?_)
      · first
        | (cases hc; done)
        | (
          refine awp_seq ?_
          refine awp_region ?_
          refine rv rfl rfl (?_)
          refine rv rfl rfl (?_)
          refine rn ?_
          refine then_normal ?_
          refine awp_ret ?_
          repeat (first | refine then_ret ?_ | refine inBlock_ret ?_)
          refine rr rfl rfl ?_
          first | exact ei (fix_hit hlt hi.2 (by first | assumption | simpa [eqP] using hc)).symm | exact ei (fix_none (any_end hi (not_lt_len hc))).symm | trace_state)
      · first
        | (cases hc; done)
        | (
          refine awp_skip ?_
          refine inBlock_normal ?_
          refine then_normal ?_
          refine awp_region ?_
          refine rv rfl rfl (?_)
          refine rv rfl rfl (?_)
          refine rn ?_
          refine then_normal ?_
          refine ⟨i + 1, ⟨hlt, any_succ hlt hi.2 (by first | assumption | simpa [eqP] using hc)⟩, by omega, ?_⟩
          refine ⟨Nat.le_of_ble_eq_true rfl, ?_, ?_, ?_⟩
          · refine ⟨⟨?_, rfl⟩, ?_⟩
            · first | rfl | ((first | refine ei ?_ | refine eh ?_ | refine eb ?_ | refine ehb ?_ | skip); exact W_succ hlt hl)
            refine ⟨⟨?_, rfl⟩, ?_⟩
            · first | rfl | ((first | refine ei ?_ | refine eh ?_ | refine eb ?_ | refine ehb ?_ | skip); exact W_succ hlt hl)
            refine ⟨⟨?_, rfl⟩, ?_⟩
            · first | rfl | ((first | refine ei ?_ | refine eh ?_ | refine eb ?_ | refine ehb ?_ | skip); exact W_succ hlt hl)
            refine ⟨⟨?_, rfl⟩, ?_⟩
            · first | rfl | ((first | refine ei ?_ | refine eh ?_ | refine eb ?_ | refine ehb ?_ | skip); exact W_succ hlt hl)
            refine ⟨⟨?_, rfl⟩, ?_⟩
            · first | rfl | ((first | refine ei ?_ | refine eh ?_ | refine eb ?_ | refine ehb ?_ | skip); exact W_succ hlt hl)
            exact trivial
          · refine ⟨⟨?_, rfl, rfl⟩, ?_⟩
            · first | rfl | ((first | refine ei ?_ | refine eh ?_ | refine eb ?_ | refine ehb ?_ | skip); exact W_succ hlt hl)
            refine ⟨⟨?_, rfl, rfl⟩, ?_⟩
            · first | rfl | ((first | refine ei ?_ | refine eh ?_ | refine eb ?_ | refine ehb ?_ | skip); exact W_succ hlt hl)
            exact trivial
          · exact trivial)))
  · first
    | (cases hc; done)
    | (
      refine awp_exit ?_
      repeat (first | refine then_exit ?_ | refine inBlock_other rfl ?_)
      refine inBlock_exit ?_
      refine then_normal ?_
      refine awp_seq ?_
      refine awp_region ?_
      refine rv rfl rfl (?_)
      refine rn ?_
      refine then_normal ?_
      refine awp_ret ?_
      repeat (first | refine then_ret ?_ | refine inBlock_ret ?_)
      refine rr rfl rfl ?_
      first | exact ei (fix_hit hlt hi.2 (by first | assumption | simpa [eqP] using hc)).symm | exact ei (fix_none (any_end hi (not_lt_len hc))).symm | trace_state)
end

section
attribute [local irreducible] awp aops DP PCall ACall Decidable.decide
/-- `slices.Contains[[]plover/api.Point,plover/api.Point]` -/
theorem con_c {l : List Pt} {v : Pt} (hl : l.length ≤ maxLen) : PCall Try.prog 69 [.sl (rows l), .agg [.int .i64 (v).1, .int .i64 (v).2]] (· = .bool (l.any (eqP v))) := by
  refine pcall_body Try.func69 rfl (by kernel_rfl) (by rfl) ?_
  refine awp_seq ?_
  refine awp_region ?_
  refine rb rfl rfl (?_)
  refine rv rfl rfl (?_)
  refine rn ?_
  refine then_normal ?_
  refine awp_seq ?_
  refine awp_region ?_
  refine rv rfl rfl (?_)
  refine rv rfl rfl (?_)
  refine rc1 rfl rfl rfl (ix_c hl) (?_)
  refine rv rfl rfl (?_)
  refine rv rfl rfl (?_)
  refine rn ?_
  refine then_normal ?_
  refine awp_ret ?_
  repeat (first | refine then_ret ?_ | refine inBlock_ret ?_)
  refine rr rfl rfl ?_
  exact eb (fix_ge _ _)
end

end Go.Proofs.Ytngeejjllgnpcaa
