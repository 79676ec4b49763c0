/- Layer 5: the cells of a cover, sorted: what the code and the document tell. -/
import Derived.Test.YtngeejjllgnpcaaES64
import Derived.Test.YtngeejjllgnpcaaD05
import Derived.Test.YtngeejjllgnpcaaS04h
namespace Go.Proofs.Ytngeejjllgnpcaa
open Go.Pv
set_option linter.unusedVariables false
set_option linter.unusedSimpArgs false
set_option maxRecDepth 10000

/-! ### sorted lists -/
abbrev leI (x y : Int) : Bool := decide (x ≤ y)
def srt (l : List Int) : List Int := l.mergeSort leI
theorem leI_t : ∀ a b c : Int, leI a b = true → leI b c = true → leI a c = true := by intro a b c h1 h2; simp at *; omega
theorem leI_n : ∀ a b : Int, (leI a b || leI b a) = true := by intro a b; simp; omega
theorem srt_s (l : List Int) : (srt l).Pairwise (fun a b => leI a b = true) := List.pairwise_mergeSort leI_t leI_n l
theorem srt_p (l : List Int) : (srt l).Perm l := List.mergeSort_perm l _
theorem srt_len (l : List Int) : (srt l).length = l.length := (srt_p l).length_eq
theorem srt_u {l m : List Int} (hp : m.Perm l) (hs : m.Pairwise (fun a b => leI a b = true)) : m = srt l :=
  List.Perm.eq_of_pairwise (le := fun a b => leI a b = true) (fun a b _ _ h1 h2 => by simp at h1 h2; omega) hs (srt_s l) (hp.trans (srt_p l).symm)

theorem mrg_l {body : List Int × List Int × List Int → Option ((List Int × List Int × List Int) ⊕ (List Int × List Int × List Int))} {M : Nat}
    (hb0 : ∀ a b out, (a = [] ∨ b = []) → body (a, b, out) = some (.inr (a, b, out)))
    (hb : ∀ x a y b out, out.length + 1 ≤ M → body (x :: a, y :: b, out) = some (.inl (if x ≤ y then (a, y :: b, out ++ [x]) else (x :: a, b, out ++ [y])))) :
    ∀ (m : Nat) (a b out : List Int) (n : Nat), a.length + b.length ≤ m → m < n → out.length + a.length + b.length ≤ M → ∃ a' b' out', loopD body n (a, b, out) = some (a', b', out') ∧ out' ++ a' ++ b' = out ++ List.merge a b leI := by
  intro m
  induction m with
  | zero =>
    intro a b out n hm hn hM
    obtain ⟨n, rfl⟩ : ∃ k, n = k + 1 := ⟨n - 1, by omega⟩
    have ha : a = [] := List.eq_nil_of_length_eq_zero (by omega)
    have hb' : b = [] := List.eq_nil_of_length_eq_zero (by omega)
    subst ha; subst hb'
    exact ⟨[], [], out, loopD_end (hb0 _ _ _ (.inl rfl)), by simp⟩
  | succ m ih =>
    intro a b out n hm hn hM
    obtain ⟨n, rfl⟩ : ∃ k, n = k + 1 := ⟨n - 1, by omega⟩
    cases a with
    | nil => exact ⟨[], b, out, loopD_end (hb0 _ _ _ (.inl rfl)), by simp⟩
    | cons x a =>
      cases b with
      | nil => exact ⟨x :: a, [], out, loopD_end (hb0 _ _ _ (.inr rfl)), by simp⟩
      | cons y b =>
        simp only [List.length_cons] at hm hM
        have h := hb x a y b out (by omega)
        rw [loopD_go h]
        by_cases hc : x ≤ y
        · rw [if_pos hc]
          obtain ⟨a', b', o', h1, h2⟩ := ih a (y :: b) (out ++ [x]) n (by simp only [List.length_cons]; omega) (by omega) (by simp only [List.length_cons, List.length_append, List.length_nil]; omega)
          refine ⟨a', b', o', h1, ?_⟩
          rw [h2, List.cons_merge_cons, if_pos (by simpa using hc)]
          simp
        · rw [if_neg hc]
          obtain ⟨a', b', o', h1, h2⟩ := ih (x :: a) b (out ++ [y]) n (by simp only [List.length_cons]; omega) (by omega) (by simp only [List.length_cons, List.length_append, List.length_nil]; omega)
          refine ⟨a', b', o', h1, ?_⟩
          rw [h2, List.cons_merge_cons, if_neg (by simpa using hc)]
          simp
/-- The document's way to sort. -/
theorem rsort : ∀ (m : Nat) (l : List Int) (fu : Nat), l.length ≤ m → l.length ≤ capN → l.length + m + 5 ≤ fu → dref01_Sorted fu l = some (srt l) := by
  intro m
  induction m with
  | zero =>
    intro l fu hm hc hfu
    obtain ⟨fu, rfl⟩ : ∃ k, fu = k + 1 := ⟨fu - 1, by omega⟩
    have : l = [] := List.eq_nil_of_length_eq_zero (by omega)
    subst this
    rw [dref01_Sorted, ← srt_u (List.Perm.refl []) List.Pairwise.nil]; rfl
  | succ m ih =>
    intro l fu hm hc hfu
    obtain ⟨fu, rfl⟩ : ∃ k, fu = k + 1 := ⟨fu - 1, by omega⟩
    have hc' := hc
    unfold capN at hc
    rw [dref01_Sorted]
    by_cases h2 : l.length < 2
    · rw [show decide ((l.length : Int) < 2) = true from decide_eq_true (by omega), cond_true]
      have : l.Pairwise (fun a b => leI a b = true) := by
        match l, h2 with
        | [], _ => exact List.Pairwise.nil
        | [x], _ => exact List.pairwise_singleton _ _
      rw [← srt_u (List.Perm.refl l) this]
    · rw [show decide ((l.length : Int) < 2) = false from decide_eq_false (by omega), cond_false]
      have hq : quoV .i64 (l.length : Int) 2 = some ((l.length / 2 : Nat) : Int) := quo_n (k := 2) (by omega) (by omega) (by omega)
      rw [hq]
      simp only [Option.bind_some]
      rw [show (0 : Int) = ((0 : Nat) : Int) from rfl, gsl_nat l (Nat.zero_le _) (by omega), gsl_from l (by omega)]
      simp only [Option.bind_some, List.drop_zero]
      have hl1 : (l.take (l.length / 2)).length = l.length / 2 := by simp; omega
      have hl2 : (l.drop (l.length / 2)).length = l.length - l.length / 2 := by simp
      rw [ih (l.take (l.length / 2)) fu (by omega) (by unfold capN; omega) (by omega), ih (l.drop (l.length / 2)) fu (by omega) (by unfold capN; omega) (by omega)]
      simp only [Option.bind_some]
      obtain ⟨a', b', o', h1, h3⟩ := mrg_l (M := capN) (body := fun (((a2, b2, out1)) : (List Int) × (List Int) × (List Int)) => ((bif (decide ((a2.length : Int) > ((0 : Nat) : Int))) then some (decide ((b2.length : Int) > ((0 : Nat) : Int))) else some false : Option Bool).bind fun (x1 : Bool) => (bif x1 then ((gi a2 ((0 : Nat) : Int)).bind fun x2 => (gi b2 ((0 : Nat) : Int)).bind fun x3 => bif (decide (x2 ≤ x3)) then ((gi a2 ((0 : Nat) : Int)).bind fun out4 => (ap out1 [out4]).bind fun out5 => (gsl a2 1 (a2.length : Int)).bind fun l4 => some (Sum.inl (l4, b2, out5))) else ((gi b2 ((0 : Nat) : Int)).bind fun out6 => (ap out1 [out6]).bind fun out7 => (gsl b2 1 (b2.length : Int)).bind fun l5 => some (Sum.inl (a2, l5, out7)))) else some (Sum.inr (a2, b2, out1)))))
        (fun a b out h => by
          rcases h with rfl | rfl
          · rfl
          · dsimp only
            cases decide ((a.length : Int) > ((0 : Nat) : Int)) <;> rfl)
        (fun x a y b out h => by
          dsimp only
          rw [show decide ((((x :: a).length : Nat) : Int) > ((0 : Nat) : Int)) = true from decide_eq_true (by simp only [List.length_cons]; omega), show decide ((((y :: b).length : Nat) : Int) > ((0 : Nat) : Int)) = true from decide_eq_true (by simp only [List.length_cons]; omega), cond_true]
          simp only [Option.bind_some, cond_true]
          rw [show gi (x :: a) ((0 : Nat) : Int) = some x from rfl, show gi (y :: b) ((0 : Nat) : Int) = some y from rfl]
          simp only [Option.bind_some]
          rw [ap_ok (by simpa using h), ap_ok (by simpa using h), show (1 : Int) = ((1 : Nat) : Int) from rfl, gsl_from (x :: a) (by simp), gsl_from (y :: b) (by simp)]
          by_cases hxy : x ≤ y
          · rw [decide_eq_true hxy, if_pos hxy]; rfl
          · rw [decide_eq_false hxy, if_neg hxy]; rfl)
        l.length (srt (l.take (l.length / 2))) (srt (l.drop (l.length / 2))) [] fu (by rw [srt_len, srt_len]; omega) (by omega) (by rw [srt_len, srt_len]; simp only [List.length_nil]; omega)
      have hlen : o'.length + a'.length + b'.length = l.length := by
        have := congrArg List.length h3
        simp only [List.length_append, List.length_nil, List.length_merge, srt_len] at this
        omega
      have e := h1
      rw [h1]
      simp only [Option.bind_some]
      rw [ap_ok (by unfold capN; omega)]
      simp only [Option.bind_some]
      rw [ap_ok (by rw [List.length_append]; unfold capN; omega)]
      simp only [Option.bind_some]
      rw [h3, List.nil_append]
      congr 1
      refine srt_u ?_ ?_
      · refine (List.merge_perm_append (le := leI)).trans ?_
        have := (srt_p (l.take (l.length / 2))).append (srt_p (l.drop (l.length / 2)))
        rwa [List.take_append_drop] at this
      · exact List.pairwise_merge leI_t leI_n _ _ (srt_s _) (srt_s _)

/-! ### rows that grow -/
theorem grow_l {τ : Type} {body : Int × List Int → Option ((Int × List Int) ⊕ τ)} (f : Nat → List Int) (fin : List Int → τ) (c hi : Nat) (hf : ∀ i, (f i).length ≤ c)
    (hb : ∀ (i : Nat) (out : List Int), i ≤ hi → out.length + c ≤ capN → body ((i : Int), out) = some (.inl (((i + 1 : Nat) : Int), out ++ f i))) (he : ∀ out, body (((hi + 1 : Nat) : Int), out) = some (.inr (fin out))) :
    ∀ (m lo : Nat) (out : List Int) (n : Nat), lo + m = hi + 1 → out.length + m * c ≤ capN → m < n → loopD body n ((lo : Int), out) = some (fin (out ++ (List.range' lo m).flatMap f)) := by
  intro m
  induction m with
  | zero =>
    intro lo out n hm hl hn
    obtain ⟨n, rfl⟩ : ∃ k, n = k + 1 := ⟨n - 1, by omega⟩
    obtain rfl : lo = hi + 1 := by omega
    rw [loopD_end (he out)]; simp
  | succ m ih =>
    intro lo out n hm hl hn
    obtain ⟨n, rfl⟩ : ∃ k, n = k + 1 := ⟨n - 1, by omega⟩
    rw [Nat.add_mul, Nat.one_mul] at hl
    rw [loopD_go (hb lo out (by omega) (by omega)), ih (lo + 1) _ n (by omega) (by rw [List.length_append]; have := hf lo; omega) (by omega)]
    rw [List.range'_succ, List.flatMap_cons, List.append_assoc]

/-! ### cells -/
def celN (k : Nat) (x : Int) : Nat := (cel (k : Int) x).toNat
theorem cel_n {k : Nat} {x : Int} (h : 24 ≤ k ∧ k ≤ 31) (hx : Bd x) : cel (k : Int) x = (celN k x : Int) ∧ celN k x ≤ 128 ∧ (celN k x : Int) = (x + 1073741824) / twoK k := by
  have h1 := cel_lit h hx
  have hb : 0 ≤ x + 1073741824 ∧ x + 1073741824 ≤ 2147483648 := by unfold Bd at hx; omega
  have h2 : 0 ≤ (x + 1073741824) / twoK k ∧ (x + 1073741824) / twoK k ≤ 128 := by
    obtain ⟨p, hp, hp1⟩ : ∃ p : Int, twoK k = p ∧ 16777216 ≤ p := ⟨_, rfl, by rcases k8 h with rfl | rfl | rfl | rfl | rfl | rfl | rfl | rfl <;> decide⟩
    rw [hp]
    refine ⟨Int.ediv_nonneg hb.1 (by omega), ?_⟩
    have := Int.ediv_le_ediv (show 0 < p by omega) hb.2
    have h3 : (2147483648 : Int) / p ≤ 128 := by
      refine Int.ediv_le_of_le_mul (by omega) ?_
      omega
    omega
  unfold celN
  rw [h1]
  omega

def spn (lo hi : Nat) : List Nat := List.range' lo (hi + 1 - lo)
/-- The numbers of the cells in columns x1 .. x2 and rows y1 .. y2, as they are met. -/
def celL (x1 x2 y1 y2 : Nat) : List Int := (spn x1 x2).flatMap fun x => (spn y1 y2).flatMap fun y => [((codN x y : Nat) : Int)]
theorem len_in (x y1 y2 : Nat) : ((spn y1 y2).flatMap fun y => [((codN x y : Nat) : Int)]).length = y2 + 1 - y1 := by
  have fm : ∀ l : List Nat, (l.flatMap fun y => [((codN x y : Nat) : Int)]).length = l.length := by
    intro l
    induction l with
    | nil => rfl
    | cons y l ih => rw [List.flatMap_cons, List.length_append, ih]; simp; omega
  rw [fm]; unfold spn; simp
theorem celL_len (x1 x2 y1 y2 : Nat) (h2 : y2 ≤ 128) : (celL x1 x2 y1 y2).length ≤ (x2 + 1 - x1) * 129 := by
  unfold celL
  rw [List.length_flatMap]
  have : ∀ l : List Nat, (l.map fun x => ((spn y1 y2).flatMap fun y => [((codN x y : Nat) : Int)]).length).sum ≤ l.length * 129 := by
    intro l
    induction l with
    | nil => simp
    | cons x l ih =>
      simp only [List.map_cons, List.sum_cons, List.length_cons, len_in]
      simp only [len_in] at ih
      omega
  have h := this (spn x1 x2)
  unfold spn at h ⊢
  simpa using h
structure Cv (s : Int) (r : tRect) (k x1 y1 x2 y2 : Nat) : Prop where
  es : s = (k : Int)
  hk : 24 ≤ k ∧ k ≤ 31
  sp : spT s r = ⟨x1, y1, x2, y2⟩
  ox : x1 ≤ x2
  oy : y1 ≤ y2
  lx : x2 ≤ 128
  ly : y2 ≤ 128
  b1 : Bd r.X1
  b2 : Bd r.Y1
  b3 : Bd r.X2
  b4 : Bd r.Y2
  c1 : cel s r.X1 = x1
  c2 : cel s r.Y1 = y1
  c3 : cel s r.X2 = x2
  c4 : cel s r.Y2 = y2
  o1 : r.X1 ≤ r.X2
  o2 : r.Y1 ≤ r.Y2
theorem cel_mono {k : Nat} {x y : Int} (h : 24 ≤ k ∧ k ≤ 31) (hx : Bd x) (hy : Bd y) (hxy : x ≤ y) : celN k x ≤ celN k y := by
  have h1 := (cel_n h hx).2.2
  have h2 := (cel_n h hy).2.2
  have hp : 0 < twoK k := by have := two_ge k; omega
  have := Int.ediv_le_ediv hp (show x + 1073741824 ≤ y + 1073741824 by omega)
  omega
theorem cv_of {s : Int} {r : tRect} (hs : mayS s = true) (hr : mayT r = true) : ∃ k x1 y1 x2 y2, Cv s r k x1 y1 x2 y2 := by
  obtain ⟨k, rfl, hk⟩ := may_k hs
  obtain ⟨h1, h2, h3, h4⟩ := mayR_1 hr
  have b1 := mayP_iff.1 h1
  have b2 := mayP_iff.1 h2
  obtain ⟨e1, _, _⟩ := cel_n hk b1.1
  obtain ⟨e2, _, _⟩ := cel_n hk b1.2
  obtain ⟨e3, l3, _⟩ := cel_n hk b2.1
  obtain ⟨e4, l4, _⟩ := cel_n hk b2.2
  exact ⟨k, celN k r.X1, celN k r.Y1, celN k r.X2, celN k r.Y2, rfl, hk, by unfold spT; rw [e1, e2, e3, e4], cel_mono hk b1.1 b2.1 h3, cel_mono hk b1.2 b2.2 h4, l3, l4, b1.1, b1.2, b2.1, b2.2, e1, e2, e3, e4, h3, h4⟩
theorem cell_ref {fu : Nat} {s x : Int} {n : Nat} (hs : mayS s = true) (hx : Bd x) (e : cel s x = n) : dref01_Cell fu s x = some (n : Int) := by
  unfold dref01_Cell
  have : far x = false := by unfold Bd at hx; simp [far]; omega
  rw [hs, this, ← e]; rfl
theorem code_ref {fu x y : Nat} (hx : x < 2147483648) (hy : y < 2147483648) : dref01_Code fu (x : Int) (y : Int) = some ((codN x y : Nat) : Int) := by
  unfold dref01_Code
  rw [cfarN hx, cfarN hy]; rfl
theorem code_code {fu x y : Nat} (hx : x < 2147483648) (hy : y < 2147483648) : dmorton_Code fu (x : Int) (y : Int) = some (((codN x y : Nat) : Int), none) := by
  unfold dmorton_Code
  rw [cfarN hx, cfarN hy]; rfl
theorem may_of {k : Nat} (h : 24 ≤ k ∧ k ≤ 31) : mayS (k : Int) = true := by simp [mayS]; omega
theorem leN {i j : Nat} : decide ((i : Int) ≤ (j : Int)) = decide (i ≤ j) := dle
theorem leS {i : Nat} : decide (((i + 1 : Nat) : Int) ≤ (i : Int)) = false := decide_eq_false (by omega)
/-- What the code tells. -/
theorem cells_c {fu : Nat} {s : Int} {r : tRect} {k x1 y1 x2 y2 : Nat} (h : Cv s r k x1 y1 x2 y2) (hr : mayT r = true) (hfu : 40000 ≤ fu) : dcover_Cells fu s r = some (srt (celL x1 x2 y1 y2), none) := by
  have hs : mayS s = true := by rw [h.es]; exact may_of h.hk
  have h1 := h.ox; have h2 := h.oy; have h3 := h.lx; have h4 := h.ly
  unfold dcover_Cells dcover_span
  rw [hr, hs, h.sp]
  have e0 : eO (true && true) (⟨x1, y1, x2, y2⟩ : tRect) = (⟨x1, y1, x2, y2⟩, none) := rfl
  rw [e0]
  simp only [Option.bind_some, Option.isSome_none, cond_false]
  rw [grow_l (fun x => (spn y1 y2).flatMap fun y => [((codN x y : Nat) : Int)]) (fun o => .inl o) 129 x2 (fun i => by rw [len_in]; omega) ?_ ?_ (x2 + 1 - x1) x1 [] fu (by omega) (by unfold capN; simp only [List.length_nil]; omega) (by omega)]
  · simp only [Option.bind_some, kS, List.nil_append]
    have hl := celL_len x1 x2 y1 y2 h4
    have hll : (celL x1 x2 y1 y2).length ≤ 17000 := by omega
    show (dslices_Sort_uint64 fu (celL x1 x2 y1 y2)).bind _ = _
    rw [sort_u64 (by unfold capN; omega) (by omega)]
    rfl
  · intro i out hi hout
    dsimp only
    rw [leN, decide_eq_true hi, cond_true, grow_l (fun y => [((codN i y : Nat) : Int)]) (fun o => .inl o) 1 y2 (fun j => by simp) ?_ ?_ (y2 + 1 - y1) y1 out fu (by omega) (by omega) (by omega)]
    · simp only [Option.bind_some, kS]
      rw [nW_add1 (by omega)]; rfl
    · intro j o hj ho
      dsimp only
      rw [leN, decide_eq_true hj, cond_true, code_code (by omega) (by omega)]
      simp only [Option.bind_some, Option.isSome_none, cond_false]
      rw [ap_ok (by simpa using ho), nW_add1 (by omega)]; rfl
    · intro o
      dsimp only
      rw [leS]; rfl
  · intro o
    dsimp only
    rw [leS]; rfl
/-- What the document tells. -/
theorem cells_r {fu : Nat} {s : Int} {r : tRect} {k x1 y1 x2 y2 : Nat} (h : Cv s r k x1 y1 x2 y2) (hfu : 40000 ≤ fu) : dref01_Cells fu s r = some (srt (celL x1 x2 y1 y2)) := by
  have hs : mayS s = true := by rw [h.es]; exact may_of h.hk
  have h1 := h.ox; have h2 := h.oy; have h3 := h.lx; have h4 := h.ly
  unfold dref01_Cells
  rw [cell_ref hs h.b1 h.c1, cell_ref hs h.b3 h.c3, cell_ref hs h.b2 h.c2, cell_ref hs h.b4 h.c4]
  simp only [Option.bind_some]
  rw [grow_l (fun x => (spn y1 y2).flatMap fun y => [((codN x y : Nat) : Int)]) (fun o => o) 129 x2 (fun i => by rw [len_in]; omega) ?_ ?_ (x2 + 1 - x1) x1 [] fu (by omega) (by unfold capN; simp only [List.length_nil]; omega) (by omega)]
  · simp only [Option.bind_some, List.nil_append]
    have hl := celL_len x1 x2 y1 y2 h4
    have hll : (celL x1 x2 y1 y2).length ≤ 17000 := by omega
    show (dref01_Sorted fu (celL x1 x2 y1 y2)).bind _ = _
    rw [rsort (celL x1 x2 y1 y2).length _ fu (Nat.le_refl _) (by unfold capN; omega) (by omega)]
    rfl
  · intro i out hi hout
    dsimp only
    rw [leN, decide_eq_true hi, cond_true, grow_l (fun y => [((codN i y : Nat) : Int)]) (fun o => o) 1 y2 (fun j => by simp) ?_ ?_ (y2 + 1 - y1) y1 out fu (by omega) (by omega) (by omega)]
    · simp only [Option.bind_some]
      rw [nW_add1 (by omega)]; rfl
    · intro j o hj ho
      dsimp only
      rw [leN, decide_eq_true hj, cond_true, code_ref (by omega) (by omega)]
      simp only [Option.bind_some]
      rw [ap_ok (by simpa using ho), nW_add1 (by omega)]; rfl
    · intro o
      dsimp only
      rw [leS]; rfl
  · intro o
    dsimp only
    rw [leS]; rfl
/-- Numbers that are different. -/
theorem celL_nd {x1 x2 y1 y2 : Nat} (hx : x2 ≤ 128) (hy : y2 ≤ 128) : (celL x1 x2 y1 y2).Pairwise (· ≠ ·) := by
  unfold celL spn
  rw [List.pairwise_flatMap]
  refine ⟨fun x hx' => ?_, ?_⟩
  · rw [List.pairwise_flatMap]
    refine ⟨fun y _ => List.pairwise_singleton _ _, ?_⟩
    refine List.Pairwise.imp_of_mem ?_ (List.nodup_range' (s := y1) (n := y2 + 1 - y1) (step := 1))
    intro a b ha hb hne u hu v hv
    simp only [List.mem_singleton] at hu hv
    subst hu; subst hv
    have hx'' := List.mem_range'_1.1 hx'
    have ha' := List.mem_range'_1.1 ha
    have hb' := List.mem_range'_1.1 hb
    intro e
    have := (cod_inj (a := x) (b := a) (c := x) (d := b) (by omega) (by omega) (by omega) (by omega)).1 (by exact_mod_cast e)
    exact hne this.2
  · refine List.Pairwise.imp_of_mem ?_ (List.nodup_range' (s := x1) (n := x2 + 1 - x1) (step := 1))
    intro a b ha hb hne u hu v hv
    obtain ⟨p, hp, hu⟩ := List.mem_flatMap.1 hu
    obtain ⟨q, hq, hv⟩ := List.mem_flatMap.1 hv
    simp only [List.mem_singleton] at hu hv
    subst hu; subst hv
    have ha' := List.mem_range'_1.1 ha
    have hb' := List.mem_range'_1.1 hb
    have hp' := List.mem_range'_1.1 hp
    have hq' := List.mem_range'_1.1 hq
    intro e
    have := (cod_inj (a := a) (b := p) (c := b) (d := q) (by omega) (by omega) (by omega) (by omega)).1 (by exact_mod_cast e)
    exact hne this.1
theorem mem_cel {x1 x2 y1 y2 x y : Nat} (hx : x2 ≤ 128) (hy : y2 ≤ 128) (hx' : x ≤ 128) (hy' : y ≤ 128) : ((codN x y : Nat) : Int) ∈ celL x1 x2 y1 y2 ↔ (x1 ≤ x ∧ x ≤ x2) ∧ (y1 ≤ y ∧ y ≤ y2) := by
  unfold celL spn
  simp only [List.mem_flatMap, List.mem_singleton, List.mem_range'_1]
  constructor
  · rintro ⟨a, ha, b, hb, e⟩
    have := (cod_inj (a := x) (b := y) (c := a) (d := b) (by omega) (by omega) (by omega) (by omega)).1 (by exact_mod_cast e)
    omega
  · rintro ⟨h1, h2⟩
    exact ⟨x, by omega, y, by omega, rfl⟩
/-- Sorted, they rise. -/
theorem srt_lt {l : List Int} (h : l.Pairwise (· ≠ ·)) : (srt l).Pairwise (· < ·) := by
  have h1 : (srt l).Pairwise (· ≠ ·) := ((srt_p l).pairwise_iff (fun h => Ne.symm h)).2 h
  refine (List.Pairwise.and h1 (srt_s l)).imp ?_
  intro a b ⟨h1, h2⟩
  simp at h2; omega
end Go.Proofs.Ytngeejjllgnpcaa
