/- Contracts, printed by a program of this session's. -/
import Derived.Test.YtngeejjllgnpcaaS03t
namespace Go.Proofs.Ytngeejjllgnpcaa
open Go.Pv
set_option maxRecDepth 100000
set_option maxHeartbeats 4000000
set_option linter.unusedSimpArgs false
set_option linter.unusedVariables false
set_option linter.unusedSectionVars false

theorem len3 {l : List Pt} (h : decide (((rows l).length : Int) < 3) = true) : AV.bool false = AV.bool (simpB l) := by
  rw [simpB_no]; intro hs; have := hs.n3; rw [rows_len] at h; simp at h; omega
theorem len64 {l : List Pt} (h : decide (((rows l).length : Int) > 64) = true) : AV.bool false = AV.bool (simpB l) := by
  rw [simpB_no]; intro hs; have := hs.n64; rw [rows_len] at h; simp at h; omega
theorem notMay {l : List Pt} (h : l.any mayN = true) : AV.bool false = AV.bool (simpB l) := by
  rw [simpB_no]; intro hs; rw [any_mayN, Bool.not_eq_true', ← Bool.not_eq_true] at h; exact h (List.all_eq_true.2 hs.may)
def base (l : List Pt) : Prop := 3 ≤ l.length ∧ l.length ≤ 64 ∧ l.all my = true
theorem base_of {l : List Pt} (h1 : decide (((rows l).length : Int) < 3) = false) (h2 : decide (((rows l).length : Int) > 64) = false) (h3 : l.any mayN = false) : base l := by
  rw [rows_len] at h1 h2; rw [any_mayN] at h3; simp at h1 h2
  exact ⟨by omega, by omega, by simpa using h3⟩
theorem take_rows (l : List Pt) (i : Nat) : ((rows l).take i).drop 0 = rows (l.take i) := by simp [rows, List.map_take]
def okC (l : List Pt) (i j : Nat) : Prop := (j + 1) % l.length = i ∨ crI l i j = false
def okK (l : List Pt) (i k : Nat) : Prop := i + 2 ≤ k ∧ ∀ j, i + 2 ≤ j → j < k → j < l.length → okC l i j
def okJ (l : List Pt) (j : Nat) : Prop := nbI l j = false ∧ (l.take j).any (eqP (gp l j)) = false ∧ ∀ k, j + 2 ≤ k → k < l.length → okC l j k
def okI (l : List Pt) (i : Nat) : Prop := i ≤ l.length ∧ ∀ j, j < i → okJ l j
theorem okK_0 (l : List Pt) (i : Nat) : okK l i (i + 2) := ⟨Nat.le_refl _, fun j h1 h2 => by omega⟩
theorem okK_step {l : List Pt} {i k : Nat} (h : okK l i k) (hc : okC l i k) : okK l i (k + 1) :=
  ⟨by have := h.1; omega, fun j h1 h2 h3 => by
    by_cases e : j = k
    · subst e; exact hc
    · exact h.2 j h1 (by omega) h3⟩
theorem okI_step {l : List Pt} {i k : Nat} (h : okI l i) (hl : i < l.length) (h1 : nbI l i = false) (h2 : (l.take i).any (eqP (gp l i)) = false) (hk : okK l i k) (he : ¬ k < l.length) : okI l (i + 1) :=
  ⟨hl, fun j hj => by
    by_cases e : j = i
    · subst e; exact ⟨h1, h2, fun m a b => hk.2 m a (by omega) b⟩
    · exact h.2 j (by omega)⟩
theorem nodup_any {l : List Pt} (h : ∀ j, j < l.length → (l.take j).any (eqP (gp l j)) = false) : l.Nodup := nodup_of fun i hi hm => by
  have := h i hi
  rw [List.any_eq_false] at this
  refine this _ hm ?_
  rw [gp_lt hi, eqP_iff]
theorem okI_end {l : List Pt} {i : Nat} (hb : base l) (h : okI l i) (he : ¬ i < l.length) : AV.bool true = AV.bool (simpB l) := by
  have e : i = l.length := by have := h.1; omega
  subst e
  have : simpB l = true := (simpB_iff l).2 (simp_of hb.1 hb.2.1 (List.all_eq_true.1 hb.2.2) (nodup_any fun j hj => (h.2 j hj).2.1) (fun i hi => (h.2 i hi).1) fun i k h1 h2 h3 => by
    rcases (h.2 i (by omega)).2.2 k h1 h2 with h | h
    · exact absurd h h3
    · exact h)
  rw [this]
theorem nb_bad {l : List Pt} {i : Nat} (hl : i < l.length) (h : nbI l i = true) : AV.bool false = AV.bool (simpB l) := by
  rw [simpB_no]; intro hs; rw [hs.nbI hl] at h; cases h
theorem con_bad {l : List Pt} {i : Nat} (hl : i < l.length) (h : (l.take i).any (eqP (gp l i)) = true) : AV.bool false = AV.bool (simpB l) := by
  rw [simpB_no]; intro hs
  obtain ⟨x, hx, he⟩ := List.any_eq_true.1 h
  rw [eqP_iff] at he
  subst he
  rw [gp_lt hl] at hx
  exact nodup_take hs.nd i hl hx
theorem cr_bad {l : List Pt} {i k : Nat} (hl : i < l.length) (hk : k < l.length) (hik : i + 2 ≤ k) (hn : ((((k + 1) % l.length : Nat) : Int) != (i : Int)) = true) (h : crI l i k = true) : AV.bool false = AV.bool (simpB l) := by
  rw [simpB_no]; intro hs
  have hn' : (k + 1) % l.length ≠ i := fun e => by rw [e] at hn; simp at hn
  rw [hs.crI hl hk (by omega) (by rw [Nat.mod_eq_of_lt (by omega)]; omega) (Ne.symm hn')] at h; cases h
theorem ne_mod {l : List Pt} {i k : Nat} (hn : ((((k + 1) % l.length : Nat) : Int) != (i : Int)) = false) : okC l i k := .inl (Int.ofNat.inj (bne_eq_false_iff_eq.1 hn))
theorem tk_len {l : List Pt} {i : Nat} (h : l.length ≤ maxLen) : (l.take i).length ≤ maxLen := by rw [List.length_take]; omega

section
attribute [local irreducible] awp aops DP PCall ACall Decidable.decide
/-- `plover/poly.Simple` -/
theorem simple_c {l : List Pt} (hl : l.length ≤ maxLen) : PCall Try.prog 17 [.sl (rows l)] (· = .bool (simpB l)) := by
  refine pcall_body Try.func17 rfl (by kernel_rfl) (by rfl) ?_
  refine awp_seq ?_
  refine awp_region ?_
  refine rv rfl rfl (?_)
  refine rn ?_
  refine then_normal ?_
  refine awp_seq ?_
  refine awp_seq ?_
  refine awp_region ?_
  refine rv rfl rfl (?_)
  refine rv rfl rfl (?_)
  refine rv rfl rfl (?_)
  refine rv rfl rfl (?_)
  (first | refine gy rfl rfl rfl (rv rfl rfl (?_)) | refine gn rfl rfl rfl rfl rfl ?_ | refine gu rfl rfl rfl rfl ?_ | refine gs rfl rfl rfl rfl rfl (fun hg => rv rfl rfl (?_)) (fun hg => ?_)) <;> (
  (first | refine gy rfl rfl rfl (rv rfl rfl (?_)) | refine gn rfl rfl rfl rfl rfl ?_ | refine gu rfl rfl rfl rfl ?_ | refine gs rfl rfl rfl rfl rfl (fun hg => rv rfl rfl (?_)) (fun hg => ?_)) <;> (
  (first | refine gy rfl rfl rfl (rv rfl rfl (?_)) | refine gn rfl rfl rfl rfl rfl ?_ | refine gu rfl rfl rfl rfl ?_ | refine gs rfl rfl rfl rfl rfl (fun hg => rv rfl rfl (?_)) (fun hg => ?_)) <;> (
  refine rv rfl rfl (?_)
  refine rv rfl rfl (?_)
  (first | refine gy rfl rfl rfl (rv rfl rfl (?_)) | refine gn rfl rfl rfl rfl rfl ?_ | refine gu rfl rfl rfl rfl ?_ | refine gs rfl rfl rfl rfl rfl (fun hg => rv rfl rfl (?_)) (fun hg => ?_)) <;> (
  (first | refine gy rfl rfl rfl (rc1 rfl rfl rfl (cf_c hl) (?_)) | refine gn rfl rfl rfl rfl rfl ?_ | refine gu rfl rfl rfl rfl ?_ | refine gs rfl rfl rfl rfl rfl (fun hg => rc1 rfl rfl rfl (cf_c hl) (?_)) (fun hg => ?_)) <;> (
  refine rv rfl rfl (?_)
  refine rn ?_
  refine then_normal ?_
  refine cs_ rfl (fun hc => ?_) (fun hc => ?_)
  · first
    | (cases hc; done)
    | (
      refine awp_seq ?_
      refine awp_region ?_
      refine rv rfl rfl (?_)
      refine rn ?_
      refine then_normal ?_
      refine awp_ret ?_
      repeat (first | refine then_ret ?_ | refine inBlock_ret ?_)
      refine rr rfl rfl ?_
      first | exact len3 (by assumption) | exact len64 (by assumption) | exact notMay (by assumption) | exact cr_bad hlt hkl hk.1 (by assumption) (by assumption) | exact nb_bad hlt (by assumption) | exact con_bad hlt (by assumption) | exact okI_end hb hi (not_lt_len hc) | trace_state)
  · first
    | (cases hc; done)
    | (
      refine awp_skip ?_
      refine then_normal ?_
      refine awp_seq ?_
      refine awp_seq ?_
      (have hb := base_of (by assumption) (by assumption) (by assumption)) <;> (
      refine awp_region ?_
      refine rv rfl rfl (?_)
      refine rv rfl rfl (?_)
      refine rv rfl rfl (?_)
      refine rn ?_
      refine then_normal ?_
      refine awp_block ?_
      refine awp_loop (ι := Nat) (fun i => ⟨[(0, .sl (rows l)), (2, .bool false), (18, .sl (rows l)), (19, .int .i64 ((rows l).length : Int)), (20, .int .i64 (i : Int))], [], [], 0⟩) (fun i => okI l i) (fun i => l.length - i) (0) (⟨Nat.zero_le _, fun j hj => by omega⟩) ?_ (fun _ => Nat.zero_le _) (fun i hi => ?_)
      · refine ⟨Nat.le_of_ble_eq_true rfl, ?_, ?_, ?_⟩
        · refine ⟨⟨?_, rfl⟩, ?_⟩
          · first | rfl | ((first | refine ei ?_ | refine eh ?_ | refine eb ?_ | refine ehb ?_ | skip); exact W_succ hlt hl)
          refine ⟨⟨?_, rfl⟩, ?_⟩
          · first | rfl | ((first | refine ei ?_ | refine eh ?_ | refine eb ?_ | refine ehb ?_ | skip); exact W_succ hlt hl)
          refine ⟨⟨?_, rfl⟩, ?_⟩
          · first | rfl | ((first | refine ei ?_ | refine eh ?_ | refine eb ?_ | refine ehb ?_ | skip); exact W_succ hlt hl)
          refine ⟨⟨?_, rfl⟩, ?_⟩
          · first | rfl | ((first | refine ei ?_ | refine eh ?_ | refine eb ?_ | refine ehb ?_ | skip); exact W_succ hlt hl)
          refine ⟨⟨?_, rfl⟩, ?_⟩
          · first | rfl | ((first | refine ei ?_ | refine eh ?_ | refine eb ?_ | refine ehb ?_ | skip); exact W_succ hlt hl)
          exact trivial
        · exact trivial
        · exact trivial
      refine awp_seq ?_
      refine awp_region ?_
      refine rv rfl rfl (?_)
      refine rn ?_
      refine then_normal ?_
      refine awp_seq ?_
      refine cs_ rfl (fun hc => ?_) (fun hc => ?_)
      · first
        | (cases hc; done)
        | (
          refine awp_skip ?_
          refine then_normal ?_
          refine awp_seq ?_
          refine awp_block ?_
          refine awp_seq ?_
          (have hlt := lt_len hc) <;> (
          refine awp_region ?_
          refine rv rfl rfl (?_)
          refine ri rfl rfl rfl rfl rfl rfl (Int.natCast_nonneg i) (rows_i hlt) (rows_wide l) (?_)
          refine rv rfl rfl (?_)
          refine ra rfl rfl rfl (?_)
          refine rv rfl rfl (?_)
          refine rs rfl rfl rfl rfl rfl rfl rfl (?_)
          refine rn ?_
          refine then_normal ?_
          refine awp_seq ?_
          refine awp_seq ?_
          refine awp_dp (m := 16) Try.mix (by kernel_rfl) (by kernel_rfl) (by kernel_rfl) (by kernel_rfl) (by kernel_rfl) (by kernel_rfl) (by kernel_rfl) ?_
          refine dv rfl rfl (fun _ => rfl) ?_
          refine dv rfl rfl (fun _ => rfl) ?_
          refine dv rfl rfl (fun _ => rfl) ?_
          refine dc rfl rfl rfl rfl (fun _ => rfl) (fun _ => (next_c (by omega) (by have := hb.2.1; unfold maxLen; omega))) ?_
          refine dv rfl rfl (fun _ => rfl) ?_
          refine dv rfl rfl (fun _ => rfl) ?_
          refine dv' rfl rfl (fun _ => ov_eq rfl (W_sm (k := 1) (by have := hb.2.1; unfold maxLen; omega))) ?_
          refine dc rfl rfl rfl rfl (fun _ => rfl) (fun _ => (next_c (by omega) (by have := hb.2.1; unfold maxLen; omega))) ?_
          refine dc rfl rfl rfl rfl (fun _ => rfl) (fun _ => neigh_c) ?_
          refine dv rfl rfl (fun _ => rfl) ?_
          (first | refine dv rfl rfl (fun _ => rfl) ?_ | refine dno rfl rfl ?_ | (refine ds rfl rfl (fun hg => ?_) (fun hg => ?_) <;> first | refine dv rfl rfl (fun _ => rfl) ?_ | refine dno rfl rfl ?_)) <;> (
          (first | refine dv rfl rfl (fun _ => rfl) ?_ | refine dno rfl rfl ?_ | (refine ds rfl rfl (fun hg => ?_) (fun hg => ?_) <;> first | refine dv rfl rfl (fun _ => rfl) ?_ | refine dno rfl rfl ?_)) <;> (
          (first | refine dV rfl rfl (fun m => va_eq (va_sub (l := 0) (h := i) rfl rfl rfl rfl rfl ⟨_, rfl⟩ (Nat.zero_le _) (by rw [rows_len]; omega) (rows_wide l)) (esl (take_rows l i))) ?_ | refine dno rfl rfl ?_ | (refine ds rfl rfl (fun hg => ?_) (fun hg => ?_) <;> first | refine dV rfl rfl (fun m => va_eq (va_sub (l := 0) (h := i) rfl rfl rfl rfl rfl ⟨_, rfl⟩ (Nat.zero_le _) (by rw [rows_len]; omega) (rows_wide l)) (esl (take_rows l i))) ?_ | refine dno rfl rfl ?_)) <;> (
          (first | refine dv rfl rfl (fun _ => rfl) ?_ | refine dno rfl rfl ?_ | (refine ds rfl rfl (fun hg => ?_) (fun hg => ?_) <;> first | refine dv rfl rfl (fun _ => rfl) ?_ | refine dno rfl rfl ?_)) <;> (
          (first | refine dc rfl rfl rfl rfl (fun _ => rfl) (fun _ => (con_c (tk_len hl))) ?_ | refine dno rfl rfl ?_ | (refine ds rfl rfl (fun hg => ?_) (fun hg => ?_) <;> first | refine dc rfl rfl rfl rfl (fun _ => rfl) (fun _ => (con_c (tk_len hl))) ?_ | refine dno rfl rfl ?_)) <;> (
          refine dv rfl rfl (fun _ => rfl) ?_
          refine dn ?_
          refine rn ?_
          refine then_normal ?_
          refine cs_ rfl (fun hc => ?_) (fun hc => ?_)
          · first
            | (cases hc; done)
            | (
              refine awp_seq ?_
              refine awp_region ?_
              refine rv rfl rfl (?_)
              refine rn ?_
              refine then_normal ?_
              refine awp_ret ?_
              repeat (first | refine then_ret ?_ | refine inBlock_ret ?_)
              refine rr rfl rfl ?_
              first | exact len3 (by assumption) | exact len64 (by assumption) | exact notMay (by assumption) | exact cr_bad hlt hkl hk.1 (by assumption) (by assumption) | exact nb_bad hlt (by assumption) | exact con_bad hlt (by assumption) | exact okI_end hb hi (not_lt_len hc) | trace_state)
          · first
            | (cases hc; done)
            | (
              refine awp_skip ?_
              refine then_normal ?_
              refine awp_seq ?_
              (have hnb : nbI l i = false := (by assumption); have hcn : (l.take i).any (eqP (gp l i)) = false := (by assumption)) <;> (
              refine awp_region ?_
              refine rv rfl rfl (?_)
              refine rv' rfl (ov_eq rfl (W_sm (k := 2) (by have := hb.2.1; unfold maxLen; omega))) (?_)
              refine rv rfl rfl (?_)
              refine rn ?_
              refine then_normal ?_
              refine awp_block ?_
              refine awp_loop (ι := Nat) (fun k => ⟨[(0, .sl (rows l)), (2, .bool false), (3, .int .i64 (i : Int)), (4, .ptr 0 0), (5, .int .i64 (k : Int)), (18, .sl (rows l)), (19, .int .i64 ((rows l).length : Int)), (20, .int .i64 (i : Int))], [(0, 0, .int .i64 (gp l i).1), (0, 1, .int .i64 (gp l i).2)], [], 1⟩) (fun k => okK l i k) (fun k => l.length - k) ((i + 2)) (okK_0 l i) ?_ (fun _ => Nat.zero_le _) (fun k hk => ?_)
              · refine ⟨Nat.le_of_ble_eq_true rfl, ?_, ?_, ?_⟩
                · refine ⟨⟨?_, rfl⟩, ?_⟩
                  · first | rfl | ((first | refine ei ?_ | refine eh ?_ | refine eb ?_ | refine ehb ?_ | skip); exact W_succ hkl hl)
                  refine ⟨⟨?_, rfl⟩, ?_⟩
                  · first | rfl | ((first | refine ei ?_ | refine eh ?_ | refine eb ?_ | refine ehb ?_ | skip); exact W_succ hkl hl)
                  refine ⟨⟨?_, rfl⟩, ?_⟩
                  · first | rfl | ((first | refine ei ?_ | refine eh ?_ | refine eb ?_ | refine ehb ?_ | skip); exact W_succ hkl hl)
                  refine ⟨⟨?_, rfl⟩, ?_⟩
                  · first | rfl | ((first | refine ei ?_ | refine eh ?_ | refine eb ?_ | refine ehb ?_ | skip); exact W_succ hkl hl)
                  refine ⟨⟨?_, rfl⟩, ?_⟩
                  · first | rfl | ((first | refine ei ?_ | refine eh ?_ | refine eb ?_ | refine ehb ?_ | skip); exact W_succ hkl hl)
                  refine ⟨⟨?_, rfl⟩, ?_⟩
                  · first | rfl | ((first | refine ei ?_ | refine eh ?_ | refine eb ?_ | refine ehb ?_ | skip); exact W_succ hkl hl)
                  refine ⟨⟨?_, rfl⟩, ?_⟩
                  · first | rfl | ((first | refine ei ?_ | refine eh ?_ | refine eb ?_ | refine ehb ?_ | skip); exact W_succ hkl hl)
                  refine ⟨⟨?_, rfl⟩, ?_⟩
                  · first | rfl | ((first | refine ei ?_ | refine eh ?_ | refine eb ?_ | refine ehb ?_ | skip); exact W_succ hkl hl)
                  exact trivial
                · refine ⟨⟨?_, rfl, rfl⟩, ?_⟩
                  · first | rfl | ((first | refine ei ?_ | refine eh ?_ | refine eb ?_ | refine ehb ?_ | skip); exact W_succ hkl hl)
                  refine ⟨⟨?_, rfl, rfl⟩, ?_⟩
                  · first | rfl | ((first | refine ei ?_ | refine eh ?_ | refine eb ?_ | refine ehb ?_ | skip); exact W_succ hkl hl)
                  exact trivial
                · exact trivial
              refine awp_seq ?_
              refine awp_seq ?_
              refine awp_region ?_
              refine rv rfl rfl (?_)
              refine rv rfl rfl (?_)
              refine rv rfl rfl (?_)
              refine rv rfl rfl (?_)
              refine rn ?_
              refine then_normal ?_
              refine cs_ rfl (fun hc => ?_) (fun hc => ?_)
              · first
                | (cases hc; done)
                | (
                  refine awp_skip ?_
                  refine then_normal ?_
                  refine awp_seq ?_
                  refine awp_block ?_
                  refine awp_seq ?_
                  (have hkl := lt_len hc) <;> (
                  refine awp_dp (m := 21) Try.mix (by kernel_rfl) (by kernel_rfl) (by kernel_rfl) (by kernel_rfl) (by kernel_rfl) (by kernel_rfl) (by kernel_rfl) ?_
                  refine dv rfl rfl (fun _ => rfl) ?_
                  refine dv' rfl rfl (fun _ => ov_eq rfl (W_sm (k := 1) (by have := hb.2.1; unfold maxLen; omega))) ?_
                  refine dv rfl rfl (fun _ => rfl) ?_
                  refine dv rfl rfl (fun _ => rfl) ?_
                  refine dv' rfl rfl (fun _ => ov_rem rfl rfl (len_ne (by omega)) (tmod_rows l (k + 1))) ?_
                  refine dv rfl rfl (fun _ => rfl) ?_
                  refine dv rfl rfl (fun _ => rfl) ?_
                  refine dv rfl rfl (fun _ => rfl) ?_
                  (first | refine dv rfl rfl (fun _ => rfl) ?_ | refine dno rfl rfl ?_ | (refine ds rfl rfl (fun hg => ?_) (fun hg => ?_) <;> first | refine dv rfl rfl (fun _ => rfl) ?_ | refine dno rfl rfl ?_)) <;> (
                  (first | refine dv rfl rfl (fun _ => rfl) ?_ | refine dno rfl rfl ?_ | (refine ds rfl rfl (fun hg => ?_) (fun hg => ?_) <;> first | refine dv rfl rfl (fun _ => rfl) ?_ | refine dno rfl rfl ?_)) <;> (
                  (first | refine dv rfl rfl (fun _ => rfl) ?_ | refine dno rfl rfl ?_ | (refine ds rfl rfl (fun hg => ?_) (fun hg => ?_) <;> first | refine dv rfl rfl (fun _ => rfl) ?_ | refine dno rfl rfl ?_)) <;> (
                  (first | refine dc rfl rfl rfl rfl (fun _ => rfl) (fun _ => (next_c (by omega) (by have := hb.2.1; unfold maxLen; omega))) ?_ | refine dno rfl rfl ?_ | (refine ds rfl rfl (fun hg => ?_) (fun hg => ?_) <;> first | refine dc rfl rfl rfl rfl (fun _ => rfl) (fun _ => (next_c (by omega) (by have := hb.2.1; unfold maxLen; omega))) ?_ | refine dno rfl rfl ?_)) <;> (
                  (first | refine dv rfl rfl (fun _ => rfl) ?_ | refine dno rfl rfl ?_ | (refine ds rfl rfl (fun hg => ?_) (fun hg => ?_) <;> first | refine dv rfl rfl (fun _ => rfl) ?_ | refine dno rfl rfl ?_)) <;> (
                  (first | refine dv rfl rfl (fun _ => rfl) ?_ | refine dno rfl rfl ?_ | (refine ds rfl rfl (fun hg => ?_) (fun hg => ?_) <;> first | refine dv rfl rfl (fun _ => rfl) ?_ | refine dno rfl rfl ?_)) <;> (
                  (first | refine di rfl rfl rfl rfl rfl (fun _ => rfl) rfl (Int.natCast_nonneg _) (rows_i hkl) (rows_wide l) ?_ | refine dno rfl rfl ?_ | (refine ds rfl rfl (fun hg => ?_) (fun hg => ?_) <;> first | refine di rfl rfl rfl rfl rfl (fun _ => rfl) rfl (Int.natCast_nonneg _) (rows_i hkl) (rows_wide l) ?_ | refine dno rfl rfl ?_)) <;> (
                  (first | refine dv rfl rfl (fun _ => rfl) ?_ | refine dno rfl rfl ?_ | (refine ds rfl rfl (fun hg => ?_) (fun hg => ?_) <;> first | refine dv rfl rfl (fun _ => rfl) ?_ | refine dno rfl rfl ?_)) <;> (
                  (first | refine dv rfl rfl (fun _ => rfl) ?_ | refine dno rfl rfl ?_ | (refine ds rfl rfl (fun hg => ?_) (fun hg => ?_) <;> first | refine dv rfl rfl (fun _ => rfl) ?_ | refine dno rfl rfl ?_)) <;> (
                  (first | refine dv rfl rfl (fun _ => rfl) ?_ | refine dno rfl rfl ?_ | (refine ds rfl rfl (fun hg => ?_) (fun hg => ?_) <;> first | refine dv rfl rfl (fun _ => rfl) ?_ | refine dno rfl rfl ?_)) <;> (
                  (first | refine dc rfl rfl rfl rfl (fun _ => rfl) (fun _ => (next_c (by omega) (by have := hb.2.1; unfold maxLen; omega))) ?_ | refine dno rfl rfl ?_ | (refine ds rfl rfl (fun hg => ?_) (fun hg => ?_) <;> first | refine dc rfl rfl rfl rfl (fun _ => rfl) (fun _ => (next_c (by omega) (by have := hb.2.1; unfold maxLen; omega))) ?_ | refine dno rfl rfl ?_)) <;> (
                  (first | refine dc rfl rfl rfl rfl (fun _ => rfl) (fun _ => cross_c) ?_ | refine dno rfl rfl ?_ | (refine ds rfl rfl (fun hg => ?_) (fun hg => ?_) <;> first | refine dc rfl rfl rfl rfl (fun _ => rfl) (fun _ => cross_c) ?_ | refine dno rfl rfl ?_)) <;> (
                  refine dv rfl rfl (fun _ => rfl) ?_
                  refine dn ?_
                  refine rn ?_
                  refine then_normal ?_
                  refine cs_ rfl (fun hc => ?_) (fun hc => ?_)
                  · first
                    | (cases hc; done)
                    | (
                      refine awp_seq ?_
                      refine awp_region ?_
                      refine rv rfl rfl (?_)
                      refine rn ?_
                      refine then_normal ?_
                      refine awp_ret ?_
                      repeat (first | refine then_ret ?_ | refine inBlock_ret ?_)
                      refine rr rfl rfl ?_
                      first | exact len3 (by assumption) | exact len64 (by assumption) | exact notMay (by assumption) | exact cr_bad hlt hkl hk.1 (by assumption) (by assumption) | exact nb_bad hlt (by assumption) | exact con_bad hlt (by assumption) | exact okI_end hb hi (not_lt_len hc) | trace_state)
                  · first
                    | (cases hc; done)
                    | (
                      refine awp_skip ?_
                      refine inBlock_normal ?_
                      refine then_normal ?_
                      refine awp_region ?_
                      refine rv rfl rfl (?_)
                      refine rv rfl rfl (?_)
                      refine rv rfl rfl (?_)
                      refine rn ?_
                      refine then_normal ?_
                      refine ⟨k + 1, okK_step hk (by first | exact ne_mod (by assumption) | exact .inr (by assumption)), by omega, ?_⟩
                      refine ⟨Nat.le_of_ble_eq_true rfl, ?_, ?_, ?_⟩
                      · refine ⟨⟨?_, rfl⟩, ?_⟩
                        · first | rfl | ((first | refine ei ?_ | refine eh ?_ | refine eb ?_ | refine ehb ?_ | skip); exact W_succ hkl hl)
                        refine ⟨⟨?_, rfl⟩, ?_⟩
                        · first | rfl | ((first | refine ei ?_ | refine eh ?_ | refine eb ?_ | refine ehb ?_ | skip); exact W_succ hkl hl)
                        refine ⟨⟨?_, rfl⟩, ?_⟩
                        · first | rfl | ((first | refine ei ?_ | refine eh ?_ | refine eb ?_ | refine ehb ?_ | skip); exact W_succ hkl hl)
                        refine ⟨⟨?_, rfl⟩, ?_⟩
                        · first | rfl | ((first | refine ei ?_ | refine eh ?_ | refine eb ?_ | refine ehb ?_ | skip); exact W_succ hkl hl)
                        refine ⟨⟨?_, rfl⟩, ?_⟩
                        · first | rfl | ((first | refine ei ?_ | refine eh ?_ | refine eb ?_ | refine ehb ?_ | skip); exact W_succ hkl hl)
                        refine ⟨⟨?_, rfl⟩, ?_⟩
                        · first | rfl | ((first | refine ei ?_ | refine eh ?_ | refine eb ?_ | refine ehb ?_ | skip); exact W_succ hkl hl)
                        refine ⟨⟨?_, rfl⟩, ?_⟩
                        · first | rfl | ((first | refine ei ?_ | refine eh ?_ | refine eb ?_ | refine ehb ?_ | skip); exact W_succ hkl hl)
                        refine ⟨⟨?_, rfl⟩, ?_⟩
                        · first | rfl | ((first | refine ei ?_ | refine eh ?_ | refine eb ?_ | refine ehb ?_ | skip); exact W_succ hkl hl)
                        exact trivial
                      · refine ⟨⟨?_, rfl, rfl⟩, ?_⟩
                        · first | rfl | ((first | refine ei ?_ | refine eh ?_ | refine eb ?_ | refine ehb ?_ | skip); exact W_succ hkl hl)
                        refine ⟨⟨?_, rfl, rfl⟩, ?_⟩
                        · first | rfl | ((first | refine ei ?_ | refine eh ?_ | refine eb ?_ | refine ehb ?_ | skip); exact W_succ hkl hl)
                        exact trivial
                      · exact trivial)))))))))))))))
              · first
                | (cases hc; done)
                | (
                  refine awp_exit ?_
                  repeat (first | refine then_exit ?_ | refine inBlock_other rfl ?_)
                  refine inBlock_exit ?_
                  refine inBlock_normal ?_
                  refine then_normal ?_
                  refine awp_region ?_
                  refine rv rfl rfl (?_)
                  refine rv rfl rfl (?_)
                  refine rn ?_
                  refine then_normal ?_
                  refine ⟨i + 1, okI_step hi hlt hnb hcn hk (not_lt_len hc), by omega, ?_⟩
                  refine ⟨Nat.le_of_ble_eq_true rfl, ?_, ?_, ?_⟩
                  · refine ⟨⟨?_, rfl⟩, ?_⟩
                    · first | rfl | ((first | refine ei ?_ | refine eh ?_ | refine eb ?_ | refine ehb ?_ | skip); exact W_succ hlt hl)
                    refine ⟨⟨?_, rfl⟩, ?_⟩
                    · first | rfl | ((first | refine ei ?_ | refine eh ?_ | refine eb ?_ | refine ehb ?_ | skip); exact W_succ hlt hl)
                    refine ⟨⟨?_, rfl⟩, ?_⟩
                    · first | rfl | ((first | refine ei ?_ | refine eh ?_ | refine eb ?_ | refine ehb ?_ | skip); exact W_succ hlt hl)
                    refine ⟨⟨?_, rfl⟩, ?_⟩
                    · first | rfl | ((first | refine ei ?_ | refine eh ?_ | refine eb ?_ | refine ehb ?_ | skip); exact W_succ hlt hl)
                    refine ⟨⟨?_, rfl⟩, ?_⟩
                    · first | rfl | ((first | refine ei ?_ | refine eh ?_ | refine eb ?_ | refine ehb ?_ | skip); exact W_succ hlt hl)
                    exact trivial
                  · exact trivial
                  · exact trivial))))))))))
      · first
        | (cases hc; done)
        | (
          refine awp_exit ?_
          repeat (first | refine then_exit ?_ | refine inBlock_other rfl ?_)
          refine inBlock_exit ?_
          refine then_normal ?_
          refine awp_seq ?_
          refine awp_region ?_
          refine rv rfl rfl (?_)
          refine rn ?_
          refine then_normal ?_
          refine awp_ret ?_
          repeat (first | refine then_ret ?_ | refine inBlock_ret ?_)
          refine rr rfl rfl ?_
          first | exact len3 (by assumption) | exact len64 (by assumption) | exact notMay (by assumption) | exact cr_bad hlt hkl hk.1 (by assumption) (by assumption) | exact nb_bad hlt (by assumption) | exact con_bad hlt (by assumption) | exact okI_end hb hi (not_lt_len hc) | trace_state))))))))
end

end Go.Proofs.Ytngeejjllgnpcaa
