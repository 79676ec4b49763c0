/- Contracts, printed by a program of this session's. -/
import Derived.Test.YtngeejjllgnpcaaS03q
namespace Go.Proofs.Ytngeejjllgnpcaa
open Go.Pv
set_option maxRecDepth 100000
set_option maxHeartbeats 4000000
set_option linter.unusedSimpArgs false
set_option linter.unusedVariables false
set_option linter.unusedSectionVars false

/-- How often a row of bools turns, from one up to another one. -/
def alts : Bool → List Bool → Nat
  | _, [] => 0
  | b, c :: r => (if b != c then 1 else 0) + alts c r
theorem alts_par (b : Bool) : ∀ (r : List Bool) (c : Bool), (alts b (r ++ [c])) % 2 = if b = c then 0 else 1
  | [], c => by cases b <;> cases c <;> rfl
  | d :: r, c => by
    have := alts_par d r c
    simp only [List.cons_append, alts]
    cases b <;> cases c <;> cases d <;> simp at this ⊢ <;> omega
theorem cnt_strad (p : Pt) (f : Pt → Bool) : ∀ (a : Pt) (t : List Pt), (pairs a t).countP (fun e => f e.1 != f e.2) = alts (f a) (t.map f)
  | _, [] => rfl
  | a, b :: t => by
    simp only [pairs, List.countP_cons, List.map_cons, alts, cnt_strad p f b t]
    omega
theorem even_strad (f : Pt → Bool) (l : List Pt) : (edges l).countP (fun e => f e.1 != f e.2) % 2 = 0 := by
  cases l with
  | nil => rfl
  | cons a t =>
    show (pairs a (t ++ [a])).countP _ % 2 = 0
    rw [cnt_strad a f, List.map_append, List.map_cons, List.map_nil, alts_par]; simp
theorem tn_sgn {a b p : Pt} (ha : my a = true) (hb : my b = true) (hp : my p = true) : tn a b p = sgn (detZ a.1 a.2 b.1 b.2 p.1 p.2) := turn_det ha hb hp
theorem sgn_pos {z : Int} : sgn z > 0 ↔ z > 0 := by unfold sgn; split <;> first | omega | (split <;> omega)
/-- Left of all: each edge that is level with it counts. -/
theorem left_tog {a b p : Pt} (ha : my a = true) (hb : my b = true) (hp : my p = true) (h1 : p.1 < a.1) (h2 : p.1 < b.1) : tog p (a, b) = (decide (a.2 > p.2) != decide (b.2 > p.2)) := by
  unfold tog
  simp only
  by_cases hs : (decide (a.2 > p.2) != decide (b.2 > p.2)) = true
  · rw [hs, Bool.true_and, tn_sgn ha hb hp]
    have key : decide (sgn (detZ a.1 a.2 b.1 b.2 p.1 p.2) > 0) = decide (b.2 > a.2) := by
      rw [decide_eq_decide, sgn_pos]
      unfold detZ
      generalize hw : b.1 - a.1 = w; generalize hu : p.2 - a.2 = u; generalize hh : b.2 - a.2 = h; generalize hv : p.1 - a.1 = v
      have up : ∀ H U w v : Int, 0 < H → 0 ≤ U → U < H → v < 0 → v < w → H * v < w * U := by
        intro H U w v hH h0 hU hv hvw
        have a0 : H * v < 0 := by
          have := Int.mul_lt_mul_of_pos_left hv hH; rwa [Int.mul_zero] at this
        by_cases hw : 0 ≤ w
        · have := Int.mul_nonneg hw h0; omega
        · have a1 : H * v < H * w := Int.mul_lt_mul_of_pos_left hvw hH
          have a2 : (-w) * U ≤ (-w) * H := Int.mul_le_mul_of_nonneg_left (by omega) (by omega)
          rw [Int.neg_mul, Int.neg_mul, Int.mul_comm w H] at a2
          omega
      by_cases c1 : a.2 > p.2 <;> by_cases c2 : b.2 > p.2 <;> simp [c1, c2] at hs
      · -- down
        have e1 : ¬ b.2 > a.2 := by omega
        simp only [e1, iff_false]
        by_cases hz : w * u - h * v > 0
        · exfalso
          have hw2 : v < w := by omega
          have := up (-h) (-u) w v (by omega) (by omega)
          by_cases hlt : -u < -h
          · have := this hlt (by omega) hw2
            rw [Int.neg_mul, Int.mul_neg] at this; omega
          · have hu2 : u = h := by omega
            subst hu2
            have a1 : (-u) * v < (-u) * w := Int.mul_lt_mul_of_pos_left hw2 (by omega)
            rw [Int.neg_mul, Int.neg_mul, Int.mul_comm u w] at a1; omega
        · exact hz
      · have e1 : b.2 > a.2 := by omega
        simp only [e1, iff_true]
        have := up h u w v (by omega) (by omega) (by omega) (by omega) (by omega)
        omega
    rw [key]; simp
  · have hs' : (decide (a.2 > p.2) != decide (b.2 > p.2)) = false := by simpa using hs
    rw [hs']; rfl
/-- Right of all: none does. -/
theorem right_tog {a b p : Pt} (ha : my a = true) (hb : my b = true) (hp : my p = true) (h1 : a.1 < p.1) (h2 : b.1 < p.1) : tog p (a, b) = false := by
  unfold tog
  simp only
  by_cases hs : (decide (a.2 > p.2) != decide (b.2 > p.2)) = true
  · rw [hs, Bool.true_and, tn_sgn ha hb hp]
    have key : decide (sgn (detZ a.1 a.2 b.1 b.2 p.1 p.2) > 0) = !decide (b.2 > a.2) := by
      have : (sgn (detZ a.1 a.2 b.1 b.2 p.1 p.2) > 0) ↔ ¬ (b.2 > a.2) := by
        rw [sgn_pos]
        unfold detZ
        generalize hw : b.1 - a.1 = w; generalize hu : p.2 - a.2 = u; generalize hh : b.2 - a.2 = h; generalize hv : p.1 - a.1 = v
        have up : ∀ H U w v : Int, 0 < H → 0 ≤ U → U ≤ H → 0 < v → w < v → w * U < H * v := by
          intro H U w v hH h0 hU hv hvw
          have a0 : 0 < H * v := Int.mul_pos hH hv
          by_cases hw : w ≤ 0
          · have := Int.mul_nonneg (show 0 ≤ -w by omega) h0
            rw [Int.neg_mul] at this; omega
          · have a1 : H * w < H * v := Int.mul_lt_mul_of_pos_left hvw hH
            have a2 : w * U ≤ w * H := Int.mul_le_mul_of_nonneg_left hU (by omega)
            rw [Int.mul_comm w H] at a2
            omega
        by_cases c1 : a.2 > p.2 <;> by_cases c2 : b.2 > p.2 <;> simp [c1, c2] at hs
        · have e1 : ¬ b.2 > a.2 := by omega
          simp only [e1, not_false_eq_true, iff_true]
          have := up (-h) (-u) w v (by omega) (by omega) (by omega) (by omega) (by omega)
          rw [Int.neg_mul, Int.mul_neg] at this; omega
        · have e1 : b.2 > a.2 := by omega
          simp only [e1, not_true_eq_false, iff_false]
          have := up h u w v (by omega) (by omega) (by omega) (by omega) (by omega)
          omega
      rw [Bool.eq_iff_iff]; simp only [decide_eq_true_eq, Bool.not_eq_true', decide_eq_false_iff_not]; exact this
    rw [key]
    cases decide (b.2 > a.2) <;> rfl
  · have hs' : (decide (a.2 > p.2) != decide (b.2 > p.2)) = false := by simpa using hs
    rw [hs']; rfl
theorem level_tog {a b p : Pt} (h : (decide (a.2 > p.2) != decide (b.2 > p.2)) = false) : tog p (a, b) = false := by
  unfold tog; simp only [h, Bool.false_and]
theorem countP_zero {α : Type} {f : α → Bool} : ∀ {l : List α}, (∀ a ∈ l, f a = false) → l.countP f = 0
  | [], _ => rfl
  | a :: l, h => by
    have h1 : l.countP f = 0 := countP_zero fun b hb => h b (List.mem_cons_of_mem _ hb)
    rw [List.countP_cons, h a (by simp), h1]; rfl
/-- What is in it is in each rectangle that holds all corners. -/
theorem in_box {l : List Pt} {p : Pt} {x1 y1 x2 y2 : Int} (hl : ∀ q ∈ l, my q = true) (hp : my p = true) (hb : ∀ q ∈ l, x1 ≤ q.1 ∧ q.1 ≤ x2 ∧ y1 ≤ q.2 ∧ q.2 ≤ y2) (hi : inE l p = true) :
    x1 ≤ p.1 ∧ p.1 ≤ x2 ∧ y1 ≤ p.2 ∧ p.2 ≤ y2 := by
  unfold inE at hi
  rw [Bool.or_eq_true] at hi
  rcases hi with hi | hi
  · obtain ⟨e, he, ho⟩ := List.any_eq_true.1 hi
    have h1 := hb _ (edge_mem he).1; have h2 := hb _ (edge_mem he).2
    unfold on onV at ho
    simp only [Bool.and_eq_true, btw, mn_eq, mx_eq, decide_eq_true_eq] at ho
    omega
  · simp only [decide_eq_true_eq] at hi
    have hz : ∀ e ∈ edges l, my e.1 = true ∧ my e.2 = true ∧ (x1 ≤ e.1.1 ∧ e.1.1 ≤ x2 ∧ y1 ≤ e.1.2 ∧ e.1.2 ≤ y2) ∧ (x1 ≤ e.2.1 ∧ e.2.1 ≤ x2 ∧ y1 ≤ e.2.2 ∧ e.2.2 ≤ y2) := fun e he =>
      ⟨hl _ (edge_mem he).1, hl _ (edge_mem he).2, hb _ (edge_mem he).1, hb _ (edge_mem he).2⟩
    by_cases c : x1 ≤ p.1 ∧ p.1 ≤ x2 ∧ y1 ≤ p.2 ∧ p.2 ≤ y2
    · exact c
    · exfalso
      by_cases c1 : p.1 < x1
      · have : cnt p (edges l) = (edges l).countP (fun e => decide (e.1.2 > p.2) != decide (e.2.2 > p.2)) := countP_eq_of fun e he => by
          obtain ⟨h1, h2, h3, h4⟩ := hz e he
          exact left_tog h1 h2 hp (by omega) (by omega)
        have h2 := even_strad (fun q => decide (q.2 > p.2)) l
        rw [this] at hi
        have h3 : (edges l).countP (fun e => decide (e.1.2 > p.2) != decide (e.2.2 > p.2)) % 2 = 0 := h2
        omega
      · have : cnt p (edges l) = 0 := countP_zero fun e he => by
          obtain ⟨h1, h2, h3, h4⟩ := hz e he
          by_cases c2 : x2 < p.1
          · exact right_tog h1 h2 hp (by omega) (by omega)
          · refine level_tog ?_
            by_cases c3 : p.2 < y1
            · have e1 : e.1.2 > p.2 := by omega
              have e2 : e.2.2 > p.2 := by omega
              simp [e1, e2]
            · have e1 : ¬ e.1.2 > p.2 := by omega
              have e2 : ¬ e.2.2 > p.2 := by omega
              simp [e1, e2]
        omega
/-! moved -/
def mv (d p : Pt) : Pt := (p.1 + d.1, p.2 + d.2)
theorem pairs_map (d a : Pt) : ∀ t : List Pt, pairs (mv d a) (t.map (mv d)) = (pairs a t).map fun e => (mv d e.1, mv d e.2)
  | [] => rfl
  | b :: t => by simp only [List.map_cons, pairs, pairs_map d b t]
theorem edges_map (d : Pt) (l : List Pt) : edges (l.map (mv d)) = (edges l).map fun e => (mv d e.1, mv d e.2) := by
  cases l with
  | nil => rfl
  | cons a t =>
    show pairs (mv d a) (t.map (mv d) ++ [mv d a]) = _
    have := pairs_map d a (t ++ [a])
    rw [List.map_append] at this
    exact this
theorem tn_mv {a b p d : Pt} (ha : my a = true) (hb : my b = true) (hp : my p = true) (ha' : my (mv d a) = true) (hb' : my (mv d b) = true) (hp' : my (mv d p) = true) : tn (mv d a) (mv d b) (mv d p) = tn a b p := by
  rw [tn_sgn ha hb hp, tn_sgn ha' hb' hp']
  congr 1
  unfold detZ mv
  simp only
  rw [show b.1 + d.1 - (a.1 + d.1) = b.1 - a.1 by omega, show p.2 + d.2 - (a.2 + d.2) = p.2 - a.2 by omega, show b.2 + d.2 - (a.2 + d.2) = b.2 - a.2 by omega, show p.1 + d.1 - (a.1 + d.1) = p.1 - a.1 by omega]
theorem on_mv {a b p d : Pt} (ha : my a = true) (hb : my b = true) (hp : my p = true) (ha' : my (mv d a) = true) (hb' : my (mv d b) = true) (hp' : my (mv d p) = true) : on (mv d a) (mv d b) (mv d p) = on a b p := by
  have ht := tn_mv ha hb hp ha' hb' hp'
  unfold on onV tn at *
  rw [ht]
  have e1 := btw_add a.1 b.1 p.1 d.1; have e2 := btw_add a.2 b.2 p.2 d.2
  simp only [mv] at *
  rw [e1, e2]
theorem in_mv {l : List Pt} {p d : Pt} (hl : ∀ q ∈ l, my q = true ∧ my (mv d q) = true) (hp : my p = true) (hp' : my (mv d p) = true) : inE (l.map (mv d)) (mv d p) = inE l p := by
  have h1 : (edges (l.map (mv d))).any (fun e => on e.1 e.2 (mv d p)) = (edges l).any (fun e => on e.1 e.2 p) := by
    rw [edges_map, List.any_map]
    have : ∀ es : List (Pt × Pt), (∀ e ∈ es, e ∈ edges l) → es.any ((fun e => on e.1 e.2 (mv d p)) ∘ fun e => (mv d e.1, mv d e.2)) = es.any (fun e => on e.1 e.2 p) := fun es => by
      induction es with
      | nil => intro _; rfl
      | cons e es ih =>
        intro h
        have he := edge_mem (h e (by simp))
        simp only [List.any_cons, ih fun f hf => h f (by simp [hf]), Function.comp]
        rw [on_mv (hl _ he.1).1 (hl _ he.2).1 hp (hl _ he.1).2 (hl _ he.2).2 hp']
    exact this _ fun _ h => h
  have h2 : cnt (mv d p) (edges (l.map (mv d))) = cnt p (edges l) := by
    unfold cnt
    rw [edges_map, List.countP_map]
    refine countP_eq_of fun e he => ?_
    have hm := edge_mem he
    have := tn_mv (hl _ hm.1).1 (hl _ hm.2).1 hp (hl _ hm.1).2 (hl _ hm.2).2 hp'
    have g1 : decide ((mv d e.1).2 > (mv d p).2) = decide (e.1.2 > p.2) := by rw [decide_eq_decide]; show e.1.2 + d.2 > p.2 + d.2 ↔ _; omega
    have g2 : decide ((mv d e.2).2 > (mv d p).2) = decide (e.2.2 > p.2) := by rw [decide_eq_decide]; show e.2.2 + d.2 > p.2 + d.2 ↔ _; omega
    have g3 : decide ((mv d e.2).2 > (mv d e.1).2) = decide (e.2.2 > e.1.2) := by rw [decide_eq_decide]; show e.2.2 + d.2 > e.1.2 + d.2 ↔ _; omega
    show ((decide ((mv d e.1).2 > (mv d p).2) != decide ((mv d e.2).2 > (mv d p).2)) && (decide ((mv d e.2).2 > (mv d e.1).2) == decide (tn (mv d e.1) (mv d e.2) (mv d p) > 0))) = tog p e
    rw [g1, g2, g3, this]; rfl
  unfold inE
  rw [h1, h2]
theorem isum_tele (f : Pt → Int) : ∀ (a : Pt) (t : List Pt) (b : Pt), isum ((pairs a (t ++ [b])).map fun e => f e.1 - f e.2) = f a - f b
  | a, [], b => by simp [pairs, isum]
  | a, c :: t, b => by
    simp only [List.cons_append, pairs, List.map_cons, isum, isum_tele f c t b]; omega
theorem isum_add {α : Type} (f g : α → Int) : ∀ l : List α, isum (l.map fun e => f e + g e) = isum (l.map f) + isum (l.map g)
  | [] => rfl
  | x :: l => by simp only [List.map_cons, isum, isum_add f g l]; omega
theorem isum_zero (f : Pt → Int) (l : List Pt) : isum ((edges l).map fun e => f e.1 - f e.2) = 0 := by
  cases l with
  | nil => rfl
  | cons a t =>
    show isum ((pairs a (t ++ [a])).map _) = 0
    rw [isum_tele]; omega
theorem area_mv (d : Pt) (l : List Pt) : area2 (l.map (mv d)) = area2 l := by
  unfold area2
  rw [edges_map, List.map_map]
  have e : (crz ∘ fun e : Pt × Pt => (mv d e.1, mv d e.2)) = fun e => crz e + ((d.2 * e.1.1 - d.1 * e.1.2) - (d.2 * e.2.1 - d.1 * e.2.2)) := by
    funext e
    have key : ∀ a b c d p q : Int, (a + p) * (d + q) - (b + q) * (c + p) = (a * d - b * c) + ((q * a - p * b) - (q * c - p * d)) := by
      intro a b c d p q
      rw [Int.add_mul, Int.mul_add, Int.mul_add, Int.add_mul, Int.mul_add, Int.mul_add, Int.mul_comm q a, Int.mul_comm b p, Int.mul_comm q c, Int.mul_comm p q, Int.mul_comm c q]
      omega
    exact key e.1.1 e.1.2 e.2.1 e.2.2 d.1 d.2
  rw [e, isum_add]
  have h : isum ((edges l).map fun e => (d.2 * e.1.1 - d.1 * e.1.2) - (d.2 * e.2.1 - d.1 * e.2.2)) = 0 := isum_zero (fun q => d.2 * q.1 - d.1 * q.2) l
  rw [h, Int.add_zero]

end Go.Proofs.Ytngeejjllgnpcaa
