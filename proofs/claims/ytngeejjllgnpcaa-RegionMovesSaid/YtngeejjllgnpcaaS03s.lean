/- Contracts, printed by a program of this session's. -/
import Derived.Test.YtngeejjllgnpcaaS03r
namespace Go.Proofs.Ytngeejjllgnpcaa
open Go.Pv
set_option maxRecDepth 100000
set_option maxHeartbeats 4000000
set_option linter.unusedSimpArgs false
set_option linter.unusedVariables false
set_option linter.unusedSectionVars false

def gp (l : List Pt) (i : Nat) : Pt := l.getD (i % l.length) (0, 0)
theorem gp_lt {l : List Pt} {i : Nat} (h : i < l.length) : gp l i = l[i] := by
  unfold gp; rw [Nat.mod_eq_of_lt h, List.getD_eq_getElem?_getD, List.getElem?_eq_getElem h]; rfl
theorem gp_mod (l : List Pt) (i : Nat) : gp l (i % l.length) = gp l i := by unfold gp; rw [Nat.mod_mod]
theorem gp_mem {l : List Pt} (h : 0 < l.length) (i : Nat) : gp l i ∈ l := by
  have hlt := Nat.mod_lt i h
  rw [← gp_mod, gp_lt hlt]; exact List.getElem_mem _
theorem pairs_len (a : Pt) : ∀ t : List Pt, (pairs a t).length = t.length
  | [] => rfl
  | b :: t => by simp only [pairs, List.length_cons, pairs_len b t]
theorem pairs_get : ∀ (a : Pt) (t : List Pt) (i : Nat) (h : i < t.length), (pairs a t)[i]? = some ((a :: t)[i]'(by simp; omega), t[i])
  | a, b :: t, 0, _ => rfl
  | a, b :: t, i + 1, h => by
    have := pairs_get b t i (by simpa using h)
    simp only [pairs, List.getElem?_cons_succ, this]; rfl
theorem edges_len (l : List Pt) : (edges l).length = l.length := by
  cases l with
  | nil => rfl
  | cons a t => show (pairs a (t ++ [a])).length = _; rw [pairs_len]; simp
theorem edges_get {l : List Pt} {i : Nat} (h : i < l.length) : (edges l)[i]? = some (gp l i, gp l (i + 1)) := by
  cases l with
  | nil => simp at h
  | cons a t =>
    show (pairs a (t ++ [a]))[i]? = _
    have hi : i < (t ++ [a]).length := by simpa using h
    rw [pairs_get a (t ++ [a]) i hi]
    congr 2
    · rw [gp_lt h]
      by_cases h0 : i = 0
      · subst h0; rfl
      · obtain ⟨j, rfl⟩ : ∃ j, i = j + 1 := ⟨i - 1, by omega⟩
        simp only [List.getElem_cons_succ]
        rw [List.getElem_append_left (by simpa using h)]
    · by_cases hl : i + 1 < (a :: t).length
      · rw [gp_lt hl]
        simp only [List.getElem_cons_succ]
        rw [List.getElem_append_left (by simpa using hl)]
      · have e : i + 1 = (a :: t).length := by simp at h hl ⊢; omega
        have e2 : i = t.length := by simpa using e
        unfold gp
        rw [e, Nat.mod_self]
        subst e2
        simp
theorem edge_ix {l : List Pt} {e : Pt × Pt} (h : e ∈ edges l) : ∃ i, i < l.length ∧ e = (gp l i, gp l (i + 1)) := by
  obtain ⟨i, hi⟩ := List.mem_iff_getElem?.1 h
  have hl : i < l.length := by rw [← edges_len]; exact (List.getElem?_eq_some_iff.1 hi).1
  rw [edges_get hl] at hi
  exact ⟨i, hl, (Option.some.inj hi).symm⟩
theorem ix_edge {l : List Pt} {i : Nat} (h : i < l.length) : (gp l i, gp l (i + 1)) ∈ edges l := List.mem_iff_getElem?.2 ⟨i, edges_get h⟩
theorem nodup_inj : ∀ {l : List Pt}, l.Nodup → ∀ {i j : Nat} (hi : i < l.length) (hj : j < l.length), l[i] = l[j] → i = j
  | [], _, i, _, hi, _, _ => by simp at hi
  | a :: l, h, i, j, hi, hj, e => by
    rw [List.nodup_cons] at h
    cases i with
    | zero =>
      cases j with
      | zero => rfl
      | succ j =>
        simp only [List.getElem_cons_zero, List.getElem_cons_succ] at e
        exact absurd (e ▸ List.getElem_mem _) h.1
    | succ i =>
      cases j with
      | zero =>
        simp only [List.getElem_cons_zero, List.getElem_cons_succ] at e
        exact absurd (e ▸ List.getElem_mem _) h.1
      | succ j =>
        simp only [List.getElem_cons_succ] at e
        rw [nodup_inj h.2 (by simpa using hi) (by simpa using hj) e]
theorem gp_inj {l : List Pt} (h : l.Nodup) (h0 : 0 < l.length) {i j : Nat} (e : gp l i = gp l j) : i % l.length = j % l.length := by
  have hi := Nat.mod_lt i h0; have hj := Nat.mod_lt j h0
  rw [← gp_mod l i, ← gp_mod l j, gp_lt hi, gp_lt hj] at e
  exact nodup_inj h hi hj e
theorem nodup_of : ∀ {l : List Pt}, (∀ i (h : i < l.length), l[i] ∉ l.take i) → l.Nodup := by
  intro l h
  rw [List.nodup_iff_pairwise_ne, List.pairwise_iff_getElem]
  intro i j hi hj hij e
  refine h j hj ?_
  rw [← e]
  exact List.mem_take_iff_getElem.2 ⟨i, by omega, rfl⟩
theorem nodup_take {l : List Pt} (h : l.Nodup) (i : Nat) (hi : i < l.length) : l[i] ∉ l.take i := by
  intro hm
  obtain ⟨j, hj, e⟩ := List.mem_take_iff_getElem.1 hm
  have := nodup_inj h (by omega) hi e
  omega
def nbI (l : List Pt) (i : Nat) : Bool := on (gp l i) (gp l (i + 1)) (gp l (i + 2)) || on (gp l (i + 1)) (gp l (i + 2)) (gp l i)
def crI (l : List Pt) (i k : Nat) : Bool := cr (gp l i) (gp l (i + 1)) (gp l k) (gp l (k + 1))
theorem succ_mod {i n : Nat} (h : i < n) : (i + 1) % n = if i + 1 = n then 0 else i + 1 := by
  split
  · rename_i e; rw [e, Nat.mod_self]
  · exact Nat.mod_eq_of_lt (by omega)
theorem simp_of {l : List Pt} (h3 : 3 ≤ l.length) (h64 : l.length ≤ 64) (hm : ∀ p ∈ l, my p = true) (hd : l.Nodup) (hnb : ∀ i, i < l.length → nbI l i = false)
    (hcx : ∀ i k, i + 2 ≤ k → k < l.length → (k + 1) % l.length ≠ i → crI l i k = false) : Simp l where
  n3 := h3
  n64 := h64
  may := hm
  nd := hd
  nb e he f hf hef := by
    obtain ⟨i, hi, rfl⟩ := edge_ix he
    obtain ⟨j, hj, rfl⟩ := edge_ix hf
    have hmod := gp_inj hd (by omega) hef
    have e2 : gp l (j + 1) = gp l (i + 2) := by
      rw [← gp_mod l (j + 1), ← gp_mod l (i + 2), Nat.add_mod j, ← hmod, ← Nat.add_mod]
    have := hnb i hi
    simp only [nbI, Bool.or_eq_false_iff] at this
    simp only [e2]
    exact this
  cx e he f hf h1 h2 h3' h4 := by
    obtain ⟨i, hi, rfl⟩ := edge_ix he
    obtain ⟨k, hk, rfl⟩ := edge_ix hf
    simp only at h1 h2 h3' h4 ⊢
    have hne : i ≠ k := fun e => h1 (by rw [e])
    have g : ∀ j, my (gp l j) = true := fun j => hm _ (gp_mem (by omega) j)
    have a1 : (k + 1) % l.length ≠ i := fun e => h2 (by rw [← gp_mod l (k + 1), e])
    have a2 : (i + 1) % l.length ≠ k := fun e => h3' (by rw [← gp_mod l (i + 1), e])
    by_cases hlt : i < k
    · refine hcx i k ?_ hk a1
      have : i + 1 ≠ k := fun e => a2 (by rw [e]; exact Nat.mod_eq_of_lt hk)
      omega
    · have := hcx k i (by
        have : k + 1 ≠ i := fun e => a1 (by rw [e]; exact Nat.mod_eq_of_lt hi)
        omega) hi a2
      unfold crI at this
      rw [cr_sym (g _) (g _) (g _) (g _)] at this
      exact this
theorem Simp.nbI {l : List Pt} (h : Simp l) {i : Nat} (hi : i < l.length) : Go.Proofs.Ytngeejjllgnpcaa.nbI l i = false := by
  have h0 : 0 < l.length := by omega
  have he := ix_edge hi
  have hf := ix_edge (Nat.mod_lt (i + 1) h0)
  rw [gp_mod] at hf
  have e2 : gp l ((i + 1) % l.length + 1) = gp l (i + 2) := by
    rw [← gp_mod l (_ + 1), ← gp_mod l (i + 2), Nat.add_mod, Nat.mod_mod, ← Nat.add_mod]
  rw [e2] at hf
  have := h.nb _ he _ hf rfl
  simp only [Go.Proofs.Ytngeejjllgnpcaa.nbI, Bool.or_eq_false_iff]
  exact this
theorem Simp.crI {l : List Pt} (h : Simp l) {i k : Nat} (hi : i < l.length) (hk : k < l.length) (h1 : k ≠ i) (h2 : k ≠ (i + 1) % l.length) (h3 : i ≠ (k + 1) % l.length) : Go.Proofs.Ytngeejjllgnpcaa.crI l i k = false := by
  have h0 : 0 < l.length := by omega
  have ne : ∀ {a b : Nat}, a < l.length → b < l.length → a ≠ b → gp l a ≠ gp l b := fun ha hb hab e => by
    have := gp_inj h.nd h0 e
    rw [Nat.mod_eq_of_lt ha, Nat.mod_eq_of_lt hb] at this
    exact hab this
  have m1 : ∀ j, gp l (j + 1) = gp l ((j + 1) % l.length) := fun j => (gp_mod l (j + 1)).symm
  have a1 : gp l i ≠ gp l k := ne hi hk (Ne.symm h1)
  have a2 : gp l i ≠ gp l (k + 1) := by rw [m1 k]; exact ne hi (Nat.mod_lt _ h0) h3
  have a3 : gp l (i + 1) ≠ gp l k := by rw [m1 i]; exact ne (Nat.mod_lt _ h0) hk (Ne.symm h2)
  have a4 : gp l (i + 1) ≠ gp l (k + 1) := by
    rw [m1 i, m1 k]
    refine ne (Nat.mod_lt _ h0) (Nat.mod_lt _ h0) fun e => ?_
    rw [succ_mod hi, succ_mod hk] at e
    by_cases c1 : i + 1 = l.length
    · by_cases c2 : k + 1 = l.length
      · omega
      · rw [if_pos c1, if_neg c2] at e; omega
    · by_cases c2 : k + 1 = l.length
      · rw [if_neg c1, if_pos c2] at e; omega
      · rw [if_neg c1, if_neg c2] at e; omega
  exact h.cx (gp l i, gp l (i + 1)) (ix_edge hi) (gp l k, gp l (k + 1)) (ix_edge hk) a1 a2 a3 a4
def simpB (l : List Pt) : Bool := decide (3 ≤ l.length) && decide (l.length ≤ 64) && l.all my && decide l.Nodup && (List.range l.length).all (fun i => !nbI l i) &&
  (List.range l.length).all fun i => (List.range l.length).all fun k => decide (k < i + 2) || decide ((k + 1) % l.length = i) || !crI l i k
theorem simpB_iff (l : List Pt) : simpB l = true ↔ Simp l := by
  unfold simpB
  simp only [Bool.and_eq_true, decide_eq_true_eq, List.all_eq_true, List.mem_range, Bool.not_eq_true', Bool.or_eq_true]
  constructor
  · rintro ⟨⟨⟨⟨⟨h1, h2⟩, h3⟩, h4⟩, h5⟩, h6⟩
    refine simp_of h1 h2 h3 h4 h5 fun i k a b c => ?_
    rcases h6 i (by omega) k b with (h | h) | h
    · omega
    · exact absurd h c
    · exact h
  · intro h
    refine ⟨⟨⟨⟨⟨h.n3, h.n64⟩, h.may⟩, h.nd⟩, fun i hi => h.nbI hi⟩, fun i hi k hk => ?_⟩
    by_cases c1 : k < i + 2
    · exact .inl (.inl c1)
    · by_cases c2 : (k + 1) % l.length = i
      · exact .inl (.inr c2)
      · exact .inr (h.crI hi hk (by omega) (by rw [succ_mod hi]; split <;> omega) (Ne.symm c2))
theorem simpB_no {l : List Pt} (h : ¬ Simp l) : simpB l = false := by
  cases hb : simpB l with
  | false => rfl
  | true => exact absurd ((simpB_iff l).1 hb) h

end Go.Proofs.Ytngeejjllgnpcaa
