/- Contracts, printed by a program of this session's. -/
import Derived.Test.YtngeejjllgnpcaaS03p
namespace Go.Proofs.Ytngeejjllgnpcaa
open Go.Pv
set_option maxRecDepth 100000
set_option maxHeartbeats 4000000
set_option linter.unusedSimpArgs false
set_option linter.unusedVariables false
set_option linter.unusedSectionVars false

def tog (p : Pt) (e : Pt × Pt) : Bool := (decide (e.1.2 > p.2) != decide (e.2.2 > p.2)) && (decide (e.2.2 > e.1.2) == decide (tn e.1 e.2 p > 0))
def cnt (p : Pt) (es : List (Pt × Pt)) : Nat := es.countP (tog p)
def inE (l : List Pt) (p : Pt) : Bool := (edges l).any (fun e => on e.1 e.2 p) || decide (cnt p (edges l) % 2 = 1)
def crz (e : Pt × Pt) : Int := e.1.1 * e.2.2 - e.1.2 * e.2.1
def isum : List Int → Int
  | [] => 0
  | x :: r => x + isum r
theorem isum_append : ∀ (a b : List Int), isum (a ++ b) = isum a + isum b
  | [], b => by simp [isum]
  | x :: a, b => by simp only [List.cons_append, isum, isum_append a b]; omega
theorem isum_perm {a b : List Int} (h : List.Perm a b) : isum a = isum b := by
  induction h with
  | nil => rfl
  | cons x _ ih => simp only [isum, ih]
  | swap x y l => simp only [isum]; omega
  | trans _ _ h1 h2 => rw [h1, h2]
def area2 (l : List Pt) : Int := isum ((edges l).map crz)
theorem in_perm {l m : List Pt} (p : Pt) (he : List.Perm (edges m) (edges l)) : inE m p = inE l p := by
  unfold inE cnt
  rw [he.countP_eq (tog p)]
  congr 1
  rw [Bool.eq_iff_iff]
  simp only [List.any_eq_true]
  exact ⟨fun ⟨e, h1, h2⟩ => ⟨e, he.mem_iff.1 h1, h2⟩, fun ⟨e, h1, h2⟩ => ⟨e, he.mem_iff.2 h1, h2⟩⟩
theorem area_perm {l m : List Pt} (he : List.Perm (edges m) (edges l)) : area2 m = area2 l := isum_perm (he.map _)
/-- A point that is level with an edge's inner, and in line with it, is on it. -/
theorem level_on {a b p : Pt} (ha : my a = true) (hb : my b = true) (hp : my p = true) (hs : (decide (a.2 > p.2) != decide (b.2 > p.2)) = true) (ht : tn a b p = 0) : on a b p = true := by
  unfold on onV
  unfold tn at ht
  rw [decide_eq_true ht]
  have hd := turn_det ha hb hp
  rw [hd] at ht
  have hz : detZ a.1 a.2 b.1 b.2 p.1 p.2 = 0 := by unfold sgn at ht; split at ht <;> first | omega | (split at ht <;> omega)
  unfold detZ at hz
  have h2 : btw a.2 b.2 p.2 = true := by
    simp only [btw, mn_eq, mx_eq, Bool.and_eq_true, decide_eq_true_eq]
    by_cases h1 : a.2 > p.2 <;> by_cases h2 : b.2 > p.2 <;> simp [h1, h2] at hs <;> omega
  have h1 : btw a.1 b.1 p.1 = true := by
    simp only [btw, mn_eq, mx_eq, Bool.and_eq_true, decide_eq_true_eq]
    generalize hw : b.1 - a.1 = w at hz; generalize hu : p.2 - a.2 = u at hz; generalize hh : b.2 - a.2 = h at hz; generalize hv : p.1 - a.1 = v at hz
    have key : ∀ H U w v : Int, 0 < H → 0 ≤ U → U ≤ H → w * U = H * v → min 0 w ≤ v ∧ v ≤ max 0 w := by
      intro H U w v hH h0 hU he
      by_cases hw0 : 0 ≤ w
      · have a1 : 0 ≤ w * U := Int.mul_nonneg hw0 h0
        have a2 : w * U ≤ w * H := Int.mul_le_mul_of_nonneg_left hU hw0
        rw [he] at a1 a2
        rw [Int.mul_comm w H] at a2
        have b1 : 0 ≤ v := by
          refine Int.le_of_mul_le_mul_left (a := H) ?_ hH; rw [Int.mul_zero]; exact a1
        have b2 : v ≤ w := Int.le_of_mul_le_mul_left a2 hH
        omega
      · have hw1 : 0 ≤ -w := by omega
        have a1 : 0 ≤ (-w) * U := Int.mul_nonneg hw1 h0
        have a2 : (-w) * U ≤ (-w) * H := Int.mul_le_mul_of_nonneg_left hU hw1
        rw [Int.neg_mul, he] at a1 a2
        rw [Int.neg_mul, Int.mul_comm w H] at a2
        have b1 : v ≤ 0 := by
          refine Int.le_of_mul_le_mul_left (a := H) ?_ hH; rw [Int.mul_zero]; omega
        have b2 : w ≤ v := by
          refine Int.le_of_mul_le_mul_left (a := H) ?_ hH; omega
        omega
    by_cases h1 : a.2 > p.2 <;> by_cases h3 : b.2 > p.2 <;> simp [h1, h3] at hs
    · have := key (-h) (-u) w v (by omega) (by omega) (by omega) (by rw [Int.mul_neg, Int.neg_mul]; omega)
      omega
    · have := key h u w v (by omega) (by omega) (by omega) (by omega)
      omega
  rw [h1, h2]; rfl
theorem tog_sw {a b p : Pt} (ha : my a = true) (hb : my b = true) (hp : my p = true) (hno : on a b p = false) : tog p (b, a) = tog p (a, b) := by
  unfold tog
  simp only
  rw [tn_sw ha hb hp]
  by_cases hs : (decide (a.2 > p.2) != decide (b.2 > p.2)) = true
  · have hne : tn a b p ≠ 0 := fun h => by rw [level_on ha hb hp hs h] at hno; cases hno
    have hy : a.2 ≠ b.2 := fun e => by rw [e] at hs; simp at hs
    have e1 : (decide (b.2 > p.2) != decide (a.2 > p.2)) = true := by rw [bne_comm]; exact hs
    rw [hs, e1, Bool.true_and, Bool.true_and]
    have e2 : decide (a.2 > b.2) = !decide (b.2 > a.2) := by rw [Bool.eq_iff_iff]; simp; omega
    have e3 : decide (-tn a b p > 0) = !decide (tn a b p > 0) := by rw [Bool.eq_iff_iff]; simp; omega
    rw [e2, e3]
    cases decide (b.2 > a.2) <;> cases decide (tn a b p > 0) <;> rfl
  · have hs' : (decide (a.2 > p.2) != decide (b.2 > p.2)) = false := by simpa using hs
    have e1 : (decide (b.2 > p.2) != decide (a.2 > p.2)) = false := by rw [bne_comm]; exact hs'
    rw [hs', e1]; rfl
theorem countP_eq_of {α : Type} {f g : α → Bool} : ∀ {l : List α}, (∀ a ∈ l, f a = g a) → l.countP f = l.countP g
  | [], _ => rfl
  | a :: l, h => by
    have h1 : l.countP f = l.countP g := countP_eq_of fun b hb => h b (List.mem_cons_of_mem _ hb)
    rw [List.countP_cons, List.countP_cons, h a (by simp), h1]
theorem in_rev {l : List Pt} {p : Pt} (hl : ∀ q ∈ l, my q = true) (hp : my p = true) : inE l.reverse p = inE l p := by
  have hany : (edges l.reverse).any (fun e => on e.1 e.2 p) = (edges l).any (fun e => on e.1 e.2 p) := by
    rw [Bool.eq_iff_iff]
    simp only [List.any_eq_true]
    constructor
    · rintro ⟨e, h1, h2⟩
      obtain ⟨e', he', rfl⟩ := List.mem_map.1 ((rev_perm l).mem_iff.1 h1)
      exact ⟨e', he', by rw [← on_sw (hl _ (edge_mem he').1) (hl _ (edge_mem he').2) hp]; exact h2⟩
    · rintro ⟨e, h1, h2⟩
      exact ⟨sw e, (rev_perm l).mem_iff.2 (List.mem_map.2 ⟨e, h1, rfl⟩), by show on e.2 e.1 p = true; rw [on_sw (hl _ (edge_mem h1).1) (hl _ (edge_mem h1).2) hp]; exact h2⟩
  unfold inE
  rw [hany]
  cases ha : (edges l).any (fun e => on e.1 e.2 p) with
  | true => rfl
  | false =>
    have hno : ∀ e ∈ edges l, on e.1 e.2 p = false := fun e he => by
      rw [List.any_eq_false] at ha; simpa using ha e he
    have : cnt p (edges l.reverse) = cnt p (edges l) := by
      unfold cnt
      rw [(rev_perm l).countP_eq (tog p), List.countP_map]
      exact countP_eq_of fun e he => tog_sw (hl _ (edge_mem he).1) (hl _ (edge_mem he).2) hp (hno e he)
    rw [this]
theorem area_rev (l : List Pt) : area2 l.reverse = - area2 l := by
  unfold area2
  rw [isum_perm ((rev_perm l).map crz), List.map_map]
  generalize edges l = es
  induction es with
  | nil => rfl
  | cons e es ih =>
    simp only [List.map_cons, isum, ih, Function.comp]
    have : crz (sw e) = - crz e := by simp only [crz, sw, Int.mul_comm e.2.1, Int.mul_comm e.2.2]; omega
    rw [this]; omega

end Go.Proofs.Ytngeejjllgnpcaa
