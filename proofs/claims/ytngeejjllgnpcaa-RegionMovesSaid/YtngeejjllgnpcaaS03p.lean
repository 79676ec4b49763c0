/- Contracts, printed by a program of this session's. -/
import Derived.Test.YtngeejjllgnpcaaS01c
import Derived.Test.YtngeejjllgnpcaaS02e
namespace Go.Proofs.Ytngeejjllgnpcaa
open Go.Pv
set_option maxRecDepth 100000
set_option maxHeartbeats 4000000
set_option linter.unusedSimpArgs false
set_option linter.unusedVariables false
set_option linter.unusedSectionVars false

def on (a b p : Pt) : Bool := onV a.1 a.2 b.1 b.2 p.1 p.2
def cr (a b c d : Pt) : Bool := crossV a.1 a.2 b.1 b.2 c.1 c.2 d.1 d.2
def tn (a b p : Pt) : Int := turnV a.1 a.2 b.1 b.2 p.1 p.2
def my (p : Pt) : Bool := mayP p.1 p.2
theorem on_sw {a b p : Pt} (ha : my a = true) (hb : my b = true) (hp : my p = true) : on b a p = on a b p := on_swap ha hb hp
theorem tn_sw {a b p : Pt} (ha : my a = true) (hb : my b = true) (hp : my p = true) : tn b a p = - tn a b p := turn_swap ha hb hp
theorem cr_sym {a b c d : Pt} (ha : my a = true) (hb : my b = true) (hc : my c = true) (hd : my d = true) : cr c d a b = cr a b c d := by
  have h1 := cross_swap (a := a.1) (b := a.2) (c := b.1) (d := b.2) (x := c.1) (y := c.2) (x' := d.1) (y' := d.2) ha hb hc hd
  have h2 : cr c d b a = cr c d a b := by
    unfold cr crossV apartV
    have e1 := on_sw hb ha hc; have e2 := on_sw hb ha hd
    have e3 := tn_sw hb ha hc; have e4 := tn_sw hb ha hd
    unfold on at e1 e2; unfold tn at e3 e4
    rw [e1, e2, e3, e4, Int.neg_mul_neg, Int.mul_comm (turnV c.1 c.2 d.1 d.2 b.1 b.2)]
    generalize onV c.1 c.2 d.1 d.2 a.1 a.2 = p, onV c.1 c.2 d.1 d.2 b.1 b.2 = q, onV b.1 b.2 a.1 a.2 c.1 c.2 = r, onV b.1 b.2 a.1 a.2 d.1 d.2 = s
    cases p <;> cases q <;> cases r <;> cases s <;> rfl
  rw [← h2]; exact h1
theorem cr_sw {a b c d : Pt} (ha : my a = true) (hb : my b = true) (hc : my c = true) (hd : my d = true) : cr b a d c = cr a b c d := by
  have h1 := cross_swap (a := a.1) (b := a.2) (c := b.1) (d := b.2) (x := c.1) (y := c.2) (x' := d.1) (y' := d.2) ha hb hc hd
  have h2 := cr_sym hb ha hd hc
  have h3 := cr_sym hc hd hb ha
  have h4 : cr d c b a = cr c d b a := by
    have := cr_sym hd hc hb ha
    unfold cr crossV apartV
    have e1 := on_sw hc hd hb; have e2 := on_sw hc hd ha
    have e3 := tn_sw hc hd hb; have e4 := tn_sw hc hd ha
    unfold on at e1 e2; unfold tn at e3 e4
    rw [e1, e2, e3, e4, Int.neg_mul_neg]
    generalize onV d.1 d.2 c.1 c.2 b.1 b.2 = p
    generalize onV b.1 b.2 a.1 a.2 c.1 c.2 = r, onV b.1 b.2 a.1 a.2 d.1 d.2 = s
    generalize onV c.1 c.2 d.1 d.2 b.1 b.2 = t, onV c.1 c.2 d.1 d.2 a.1 a.2 = u
    rw [Int.mul_comm (turnV b.1 b.2 a.1 a.2 d.1 d.2)]
    cases r <;> cases s <;> cases t <;> cases u <;> rfl
  rw [← h2, h4]; exact h1
/-- The points behind each other, beginning with a. -/
def pairs : Pt → List Pt → List (Pt × Pt)
  | _, [] => []
  | a, b :: t => (a, b) :: pairs b t
def edges : List Pt → List (Pt × Pt)
  | [] => []
  | a :: t => pairs a (t ++ [a])
theorem pairs_append (a : Pt) : ∀ (s : List Pt) (b : Pt) (t : List Pt), pairs a (s ++ b :: t) = pairs a (s ++ [b]) ++ pairs b t
  | [], b, t => rfl
  | c :: s, b, t => by simp only [List.cons_append, pairs, pairs_append c s b t]
theorem edges_rot (a : Pt) : ∀ t : List Pt, List.Perm (edges (t ++ [a])) (edges (a :: t))
  | [] => List.Perm.refl _
  | b :: t => by
    show List.Perm (pairs b (t ++ [a] ++ [b])) (pairs a ((b :: t) ++ [a]))
    rw [List.append_assoc, List.singleton_append, pairs_append b t a [b]]
    simp only [List.cons_append, pairs]
    exact List.perm_append_comm (l₁ := pairs b (t ++ [a])) (l₂ := [(a, b)])
theorem rot_perm : ∀ (k : Nat) (l : List Pt), k ≤ l.length → List.Perm (edges (l.drop k ++ l.take k)) (edges l)
  | 0, l, _ => by simp
  | k + 1, l, h => by
    have hk : k < l.length := h
    have ih := rot_perm k l (by omega)
    have e : l.drop k = l[k] :: l.drop (k + 1) := List.drop_eq_getElem_cons hk
    have e2 : l.take (k + 1) = l.take k ++ [l[k]] := by rw [List.take_add_one, List.getElem?_eq_getElem hk]; rfl
    rw [e] at ih
    rw [e2, ← List.append_assoc]
    exact (edges_rot l[k] _).trans ih
def sw (e : Pt × Pt) : Pt × Pt := (e.2, e.1)
theorem pairs_rev (a : Pt) : ∀ (t : List Pt) (b : Pt), (pairs a (t ++ [b])).reverse.map sw = pairs b (t.reverse ++ [a])
  | [], b => rfl
  | c :: t, b => by
    simp only [List.cons_append, pairs, List.reverse_cons, List.map_append, pairs_rev c t b, List.append_assoc, List.singleton_append, List.map_cons, List.map_nil]
    exact (pairs_append b t.reverse c [a]).symm
theorem rev_perm : ∀ l : List Pt, List.Perm (edges l.reverse) ((edges l).map sw)
  | [] => List.Perm.refl _
  | a :: t => by
    rw [List.reverse_cons]
    refine (edges_rot a t.reverse).trans ?_
    show List.Perm (pairs a (t.reverse ++ [a])) ((pairs a (t ++ [a])).map sw)
    rw [← pairs_rev a t a]
    exact (List.reverse_perm _).map _
theorem pairs_mem {a : Pt} : ∀ {t : List Pt} {e : Pt × Pt}, e ∈ pairs a t → (e.1 = a ∨ e.1 ∈ t) ∧ e.2 ∈ t
  | [], _, h => by cases h
  | b :: t, e, h => by
    rcases List.mem_cons.1 h with rfl | h
    · exact ⟨.inl rfl, by simp⟩
    · have := pairs_mem h
      refine ⟨.inr ?_, by simp [this.2]⟩
      rcases this.1 with h | h
      · simp [h]
      · simp [h]
theorem edge_mem {l : List Pt} {e : Pt × Pt} (h : e ∈ edges l) : e.1 ∈ l ∧ e.2 ∈ l := by
  cases l with
  | nil => cases h
  | cons a t =>
    have := pairs_mem h
    simp only [List.mem_append, List.mem_singleton, List.mem_cons] at this ⊢
    rcases this with ⟨h1, h2⟩
    have e0 : ∀ x : Pt, x ∉ ([] : List Pt) := fun _ h => by cases h
    refine ⟨?_, ?_⟩
    · rcases h1 with h | h | h
      · exact .inl h
      · exact .inr h
      · rcases h with h | h
        · exact .inl h
        · exact absurd h (e0 _)
    · rcases h2 with h | h
      · exact .inr h
      · rcases h with h | h
        · exact .inl h
        · exact absurd h (e0 _)
theorem pairs_all {Q : Pt × Pt → Prop} {a : Pt} : ∀ {t : List Pt}, (∀ e ∈ pairs a t, Q e) → ∀ e ∈ pairs a t, Q e := fun h => h
/-- P3.1 over edges. -/
structure Simp (l : List Pt) : Prop where
  n3 : 3 ≤ l.length
  n64 : l.length ≤ 64
  may : ∀ p ∈ l, my p = true
  nd : l.Nodup
  nb : ∀ e ∈ edges l, ∀ f ∈ edges l, e.2 = f.1 → on e.1 e.2 f.2 = false ∧ on e.2 f.2 e.1 = false
  cx : ∀ e ∈ edges l, ∀ f ∈ edges l, e.1 ≠ f.1 → e.1 ≠ f.2 → e.2 ≠ f.1 → e.2 ≠ f.2 → cr e.1 e.2 f.1 f.2 = false
theorem Simp.perm {l m : List Pt} (h : Simp l) (hp : List.Perm m l) (he : List.Perm (edges m) (edges l)) : Simp m where
  n3 := by rw [hp.length_eq]; exact h.n3
  n64 := by rw [hp.length_eq]; exact h.n64
  may p hm := h.may p (hp.mem_iff.1 hm)
  nd := hp.nodup_iff.2 h.nd
  nb e he' f hf := h.nb e (he.mem_iff.1 he') f (he.mem_iff.1 hf)
  cx e he' f hf := h.cx e (he.mem_iff.1 he') f (he.mem_iff.1 hf)
theorem Simp.rev {l : List Pt} (h : Simp l) : Simp l.reverse where
  n3 := by rw [List.length_reverse]; exact h.n3
  n64 := by rw [List.length_reverse]; exact h.n64
  may p hm := h.may p (by simpa using hm)
  nd := (List.reverse_perm l).nodup_iff.2 h.nd
  nb e he f hf hef := by
    obtain ⟨e', he', rfl⟩ := List.mem_map.1 ((rev_perm l).mem_iff.1 he)
    obtain ⟨f', hf', rfl⟩ := List.mem_map.1 ((rev_perm l).mem_iff.1 hf)
    simp only [sw] at hef ⊢
    have := h.nb f' hf' e' he' hef.symm
    have m1 := h.may _ (edge_mem he').1; have m2 := h.may _ (edge_mem he').2; have m3 := h.may _ (edge_mem hf').1; have m4 := h.may _ (edge_mem hf').2
    rw [hef] at *
    exact ⟨by rw [on_sw m4 m2 m3]; exact this.2, by rw [on_sw m3 m4 m2]; exact this.1⟩
  cx e he f hf h1 h2 h3 h4 := by
    obtain ⟨e', he', rfl⟩ := List.mem_map.1 ((rev_perm l).mem_iff.1 he)
    obtain ⟨f', hf', rfl⟩ := List.mem_map.1 ((rev_perm l).mem_iff.1 hf)
    simp only [sw] at h1 h2 h3 h4 ⊢
    have m1 := h.may _ (edge_mem he').1; have m2 := h.may _ (edge_mem he').2; have m3 := h.may _ (edge_mem hf').1; have m4 := h.may _ (edge_mem hf').2
    rw [cr_sw m1 m2 m3 m4]
    exact h.cx e' he' f' hf' h4 h3 h2 h1

end Go.Proofs.Ytngeejjllgnpcaa
