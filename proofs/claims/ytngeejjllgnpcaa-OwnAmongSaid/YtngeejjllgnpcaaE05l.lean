/- Layer 5: the two laws. -/
import Derived.Test.YtngeejjllgnpcaaE05
namespace Go.Proofs.Ytngeejjllgnpcaa
open Go.Pv
set_option linter.unusedVariables false
set_option linter.unusedSimpArgs false
set_option maxRecDepth 10000

theorem two_lit {k : Nat} (h : 24 ≤ k ∧ k ≤ 31) : twoK k = 16777216 ∨ twoK k = 33554432 ∨ twoK k = 67108864 ∨ twoK k = 134217728 ∨ twoK k = 268435456 ∨ twoK k = 536870912 ∨ twoK k = 1073741824 ∨ twoK k = 2147483648 := by
  rcases k8 h with rfl | rfl | rfl | rfl | rfl | rfl | rfl | rfl <;> decide
theorem low_n {k n : Nat} (h : 24 ≤ k ∧ k ≤ 31) (hn : n ≤ 129) : lowV (k : Int) (n : Int) = n * twoK k - 1073741824 := by
  rw [← low_eq h]
  unfold rlow
  rcases two_lit h with e | e | e | e | e | e | e | e <;> rw [e] <;> rw [W_id (n := (n : Int) * _) (by omega), W_id (by omega)]
theorem high_n {k n : Nat} (h : 24 ≤ k ∧ k ≤ 31) (hn : n ≤ 128) : highV (k : Int) (n : Int) = min ((n + 1) * twoK k - 1073741824 - 1) 1073741824 := by
  unfold highV
  rw [nW_add1 (by omega), low_n h (by omega)]
  rcases two_lit h with e | e | e | e | e | e | e | e <;> rw [e] <;> (rw [W_id (by omega)]; unfold mn; push_cast; split <;> omega)
/-- A rectangle's cover's box, in numbers. -/
structure Bx (s : Int) (r : tRect) (p : Int) (x1 y1 x2 y2 : Nat) : Prop where
  hp : p = 16777216 ∨ p = 33554432 ∨ p = 67108864 ∨ p = 134217728 ∨ p = 268435456 ∨ p = 536870912 ∨ p = 1073741824 ∨ p = 2147483648
  b1 : cvT s r = ⟨x1 * p - 1073741824, y1 * p - 1073741824, min ((x2 + 1) * p - 1073741824 - 1) 1073741824, min ((y2 + 1) * p - 1073741824 - 1) 1073741824⟩
  d1 : (x1 : Int) = (r.X1 + 1073741824) / p
  d2 : (y1 : Int) = (r.Y1 + 1073741824) / p
  d3 : (x2 : Int) = (r.X2 + 1073741824) / p
  d4 : (y2 : Int) = (r.Y2 + 1073741824) / p
  h1 : -1073741824 ≤ r.X1 ∧ r.X1 ≤ r.X2 ∧ r.X2 ≤ 1073741824
  h2 : -1073741824 ≤ r.Y1 ∧ r.Y1 ≤ r.Y2 ∧ r.Y2 ≤ 1073741824
theorem box_mm {a b c d p : Int} (h1 : a * p ≤ c * p) (h2 : b * p ≤ d * p) : (⟨mn (a * p - 1073741824) (c * p - 1073741824), mn (b * p - 1073741824) (d * p - 1073741824), mx (min ((a + 1) * p - 1073741824 - 1) 1073741824) (min ((c + 1) * p - 1073741824 - 1) 1073741824), mx (min ((b + 1) * p - 1073741824 - 1) 1073741824) (min ((d + 1) * p - 1073741824 - 1) 1073741824)⟩ : tRect)
    = ⟨a * p - 1073741824, b * p - 1073741824, min ((c + 1) * p - 1073741824 - 1) 1073741824, min ((d + 1) * p - 1073741824 - 1) 1073741824⟩ := by
  simp only [Int.add_mul, Int.one_mul, mn_eq, mx_eq, tRect.mk.injEq]
  generalize a * p = A at *
  generalize b * p = B at *
  generalize c * p = C at *
  generalize d * p = D at *
  refine ⟨?_, ?_, ?_, ?_⟩ <;> omega
theorem bx_of {s : Int} {r : tRect} {k x1 y1 x2 y2 : Nat} (h : Cv s r k x1 y1 x2 y2) : Bx s r (twoK k) x1 y1 x2 y2 := by
  have a1 := (cel_n h.hk h.b1).2.2
  have a2 := (cel_n h.hk h.b2).2.2
  have a3 := (cel_n h.hk h.b3).2.2
  have a4 := (cel_n h.hk h.b4).2.2
  have hes := h.es
  subst hes
  have e1 : celN k r.X1 = x1 := by unfold celN; rw [h.c1]; simp
  have e2 : celN k r.Y1 = y1 := by unfold celN; rw [h.c2]; simp
  have e3 : celN k r.X2 = x2 := by unfold celN; rw [h.c3]; simp
  have e4 : celN k r.Y2 = y2 := by unfold celN; rw [h.c4]; simp
  rw [e1] at a1; rw [e2] at a2; rw [e3] at a3; rw [e4] at a4
  have l1 := h.ox; have l2 := h.oy; have l3 := h.lx; have l4 := h.ly
  have B1 := h.b1; have B2 := h.b2; have B3 := h.b3; have B4 := h.b4
  unfold Bd at B1 B2 B3 B4
  refine ⟨two_lit h.hk, ?_, a1, a2, a3, a4, ⟨by omega, h.o1, by omega⟩, ⟨by omega, h.o2, by omega⟩⟩
  unfold cvT rT cvV
  rw [h.c1, h.c2, h.c3, h.c4, low_n h.hk (by omega), low_n h.hk (by omega), low_n h.hk (by omega), low_n h.hk (by omega), high_n h.hk (by omega), high_n h.hk (by omega), high_n h.hk (by omega), high_n h.hk (by omega)]
  have hp0 : 0 ≤ twoK k := by have := two_ge k; omega
  have m1 : (x1 : Int) * twoK k ≤ x2 * twoK k := Int.mul_le_mul_of_nonneg_right (by omega) hp0
  have m2 : (y1 : Int) * twoK k ≤ y2 * twoK k := Int.mul_le_mul_of_nonneg_right (by omega) hp0
  exact box_mm m1 m2
def eqR (a b : tRect) : Bool := (a.X1 == b.X1) && ((a.Y1 == b.Y1) && ((a.X2 == b.X2) && ((a.Y2 == b.Y2) && true)))
theorem eqR_iff {a b : tRect} : eqR a b = true ↔ a = b := by
  cases a; cases b; simp [eqR]
def P8 (p : Int) : Prop := p = 16777216 ∨ p = 33554432 ∨ p = 67108864 ∨ p = 134217728 ∨ p = 268435456 ∨ p = 536870912 ∨ p = 1073741824 ∨ p = 2147483648
theorem P8.pos {p : Int} (h : P8 p) : 0 < p := by unfold P8 at h; omega
theorem lo_inj {p : Int} (h : P8 p) {a b : Nat} : (a : Int) * p - 1073741824 = b * p - 1073741824 ↔ a = b := by
  have hp := h.pos
  constructor
  · intro e
    have : (a : Int) * p = b * p := by omega
    have := Int.eq_of_mul_eq_mul_right (by omega) this
    omega
  · rintro rfl; rfl
theorem hi_is {p : Int} (h : P8 p) {a : Nat} (ha : (a : Int) * p ≤ 2147483648) : (min (((a : Int) + 1) * p - 1073741824 - 1) 1073741824 + 1073741824) / p = a := by
  have hp := h.pos
  rw [Int.add_mul, Int.one_mul]
  have e : min ((a : Int) * p + p - 1073741824 - 1) 1073741824 + 1073741824 = (a : Int) * p + min (p - 1) (2147483648 - a * p) := by omega
  rw [e, Int.add_comm, Int.add_mul_ediv_right _ _ (by omega), Int.ediv_eq_zero_of_lt (by omega) (by omega)]
  omega
theorem hi_inj {p : Int} (h : P8 p) {a b : Nat} (ha : (a : Int) * p ≤ 2147483648) (hb : (b : Int) * p ≤ 2147483648) : min (((a : Int) + 1) * p - 1073741824 - 1) 1073741824 = min (((b : Int) + 1) * p - 1073741824 - 1) 1073741824 ↔ a = b := by
  constructor
  · intro e
    have h1 := hi_is h ha
    rw [e, hi_is h hb] at h1
    omega
  · rintro rfl; rfl
theorem le_mul {p x : Int} {a : Nat} (h : P8 p) (hx : x ≤ 1073741824) (e : (a : Int) = (x + 1073741824) / p) : (a : Int) * p ≤ 2147483648 := by
  rw [e]
  have := Int.ediv_mul_le (x + 1073741824) (show p ≠ 0 by have := h.pos; omega)
  omega
theorem same_of {s : Int} {a b : tRect} {k x1 y1 x2 y2 x1' y1' x2' y2' : Nat} (h : Cv s a k x1 y1 x2 y2) (h' : Cv s b k x1' y1' x2' y2') : eqR (spT s a) (spT s b) = eqR (cvT s b) (cvT s a) := by
  obtain ⟨p1, b1, d1, d2, d3, d4, g1, g2⟩ := bx_of h
  obtain ⟨_, b1', d1', d2', d3', d4', g1', g2'⟩ := bx_of h'
  have p8 : P8 (twoK k) := p1
  rw [Bool.eq_iff_iff, eqR_iff, eqR_iff, h.sp, h'.sp, b1, b1']
  simp only [tRect.mk.injEq]
  rw [lo_inj p8, lo_inj p8, hi_inj p8 (le_mul p8 g1'.2.2 d3') (le_mul p8 g1.2.2 d3), hi_inj p8 (le_mul p8 g2'.2.2 d4') (le_mul p8 g2.2.2 d4)]
  omega
theorem Same_l {fu : Nat} {s : Int} {a b : tRect} (ha : mayT a = true) (hs : mayS s = true) : dcover_Same fu s a b = some (mayT b && eqR (spT s a) (spT s b)) := by
  unfold dcover_Same dcover_span
  rw [ha, hs]
  simp only [Option.bind_some, Bool.true_and]
  cases hb : mayT b <;> rfl
theorem no_l {fu : Nat} {s : Int} {a b : tRect} (h : (mayT a && mayS s) = false) : dcover_Cells fu s a = some ([], some 1) ∧ dcover_Box fu s a = some (⟨0, 0, 0, 0⟩, some 1) ∧ dcover_Same fu s a b = some false := by
  unfold dcover_Cells dcover_Box dcover_Same dcover_span
  rw [h]
  exact ⟨rfl, rfl, rfl⟩
theorem Box_l {fu : Nat} {s : Int} {a : tRect} (ha : mayT a = true) (hs : mayS s = true) : dcover_Box fu s a = some (cvT s a, none) ∧ dref01_Cover fu s a = some (cvT s a) := by
  unfold dcover_Box dref01_Cover
  rw [ha, hs]
  exact ⟨rfl, rfl⟩
theorem up05_l {fu : Nat} (hfu : 40000 ≤ fu) : dlaw05_up fu = some true := by
  unfold dlaw05_up
  have h1 : Cv 30 ⟨-1073741824, -1073741824, 1073741824, 1073741824⟩ 30 0 0 2 2 := ⟨rfl, by omega, by kernel_rfl, by omega, by omega, by omega, by omega, by unfold Bd; decide, by unfold Bd; decide, by unfold Bd; decide, by unfold Bd; decide, by decide, by decide, by decide, by decide, by decide, by decide⟩
  rw [cells_c h1 (by decide) hfu, (no_l (fu := fu) (s := 30) (a := ⟨1, 0, 0, 0⟩) (b := ⟨1, 0, 0, 0⟩) (by decide)).1, Same_l (by decide) (by decide)]
  simp only [Option.bind_some, Option.isNone_none, cond_true]
  rw [srt_len, show (((celL 0 2 0 2).length : Nat) : Int) == 9 from by decide]
  decide
/-- A loop that compares two lists that are one. -/
theorem cmp_l {τ : Type} {l : List Int} {q r : τ} {fu : Nat} (hl : l.length ≤ capN) (hfu : l.length < fu) : loopD (ε := Int) (τ := τ) (fun (i1 : Int) => (bif (decide (i1 < (l.length : Int))) then ((gi l i1).bind fun x7 => (gi l i1).bind fun x8 => bif (x7 != x8) then some (Sum.inr r) else some (Sum.inl (W (i1 + 1)))) else some (Sum.inr q))) fu 0 = some q := by
  unfold capN at hl
  refine loopD_traj (fun i : Nat => (i : Int)) l.length ?_ ?_ fu hfu
  · intro i hi
    rw [show decide ((i : Int) < (l.length : Int)) = true from decide_eq_true (by omega), cond_true, gi_lt hi]
    simp only [Option.bind_some, bne_self_eq_false, cond_false]
    rw [nW_add1 (by omega)]
  · rw [show decide ((l.length : Int) < (l.length : Int)) = false from decide_eq_false (by omega)]; rfl
theorem CoverTells_e (s : Int) (a b : tRect) (fu : Nat) (hfu : 40000 ≤ fu) : dlaw05_CoverTells fu s a b = some true := by
  unfold dlaw05_CoverTells
  rw [up05_l hfu]
  simp only [Option.bind_some, dref01_Shift, dref01_Rect]
  by_cases hm : mayS s = true ∧ mayT a = true
  · obtain ⟨hs, ha⟩ := hm
    obtain ⟨k, x1, y1, x2, y2, hc⟩ := cv_of hs ha
    rw [cells_c hc ha hfu, (Box_l (fu := fu) ha hs).1]
    simp only [Option.bind_some, hs, ha, Bool.not_true, cond_false]
    rw [cells_r hc hfu, (Box_l (fu := fu) ha hs).2]
    simp only [Option.bind_some, Option.isSome_none, cond_false, bne_self_eq_false]
    have hl := celL_len x1 x2 y1 y2 hc.ly
    have hx := hc.lx
    have hll : (srt (celL x1 x2 y1 y2)).length ≤ 17000 := by rw [srt_len]; omega
    have hbox : (!((cvT s a).X1 == (cvT s a).X1 && ((cvT s a).Y1 == (cvT s a).Y1 && ((cvT s a).X2 == (cvT s a).X2 && ((cvT s a).Y2 == (cvT s a).Y2 && true))))) = false := by simp
    rw [hbox]
    simp only [cond_false, Option.bind_some]
    rw [cmp_l (by unfold capN; omega) (by omega)]
    simp only [Option.bind_some, kS, cond_true]
    rw [Same_l ha hs]
    cases hb : mayT b with
    | false => rfl
    | true =>
      obtain ⟨k', x1', y1', x2', y2', hc'⟩ := cv_of hs hb
      have hk : k' = k := by have h1 := hc.es; have h2 := hc'.es; omega
      subst hk
      rw [(Box_l (fu := fu) hb hs).2, same_of hc hc']
      simp only [Option.bind_some, cond_true, Bool.true_and]
      show some (eqR (cvT s b) (cvT s a) == eqR (cvT s b) (cvT s a)) = some true
      rw [beq_self_eq_true]
  · have h : (mayT a && mayS s) = false := by
      cases h1 : mayS s <;> cases h2 : mayT a <;> simp_all
    obtain ⟨h1, h2, h3⟩ := no_l (fu := fu) (b := b) h
    rw [h1, h2, h3]
    simp only [Option.bind_some]
    have hx : (bif (!mayS s) then some true else some (!mayT a) : Option Bool) = some true := by
      cases h1 : mayS s <;> cases h2 : mayT a <;> simp_all
    rw [hx]
    rfl
theorem CoverTells_c {s : Int} {a b : tRect} (h1 : Go.Pv.okI .i64 s) (h2 : ok_tRect a) (h3 : ok_tRect b) : PCall Try.prog 11 [.int .i64 s, .agg (c_tRect a), .agg (c_tRect b)] (· = .bool true) :=
  dlaw05_CoverTells_l (CoverTells_e s a b 40000 (Nat.le_refl _))
end Go.Proofs.Ytngeejjllgnpcaa
