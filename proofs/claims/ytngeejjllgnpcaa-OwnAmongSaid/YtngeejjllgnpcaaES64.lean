/- slices.Sort at uint64 sorts. -/
import Derived.Test.YtngeejjllgnpcaaESg
import Derived.Test.YtngeejjllgnpcaaDS64
namespace Go.Proofs.Ytngeejjllgnpcaa
open Go.Pv
set_option linter.unusedVariables false
set_option linter.unusedSimpArgs false
set_option maxRecDepth 10000

theorem less_u64 (fu : Nat) (x y : Int) : dcmp_Less_uint64 fu x y = some (Sort.ltInt x y) := by
  simp [dcmp_Less_uint64, dcmp_isNaN_uint64, Sort.ltInt]
theorem dgt {i j : Nat} : decide ((i : Int) > (j : Int)) = decide (i > j) := by
  rw [Bool.eq_iff_iff]; simp
theorem dlt {i j : Nat} : decide ((i : Int) < (j : Int)) = decide (i < j) := by
  rw [Bool.eq_iff_iff]; simp
theorem dle {i j : Nat} : decide ((i : Int) ≤ (j : Int)) = decide (i ≤ j) := by
  rw [Bool.eq_iff_iff]; simp
theorem dge {i j : Nat} : decide ((i : Int) ≥ (j : Int)) = decide (i ≥ j) := by
  rw [Bool.eq_iff_iff]; simp
theorem condI {α : Type} (b : Bool) (x y : α) : (bif b then some x else some y : Option α) = some (if b = true then x else y) := by cases b <;> rfl

theorem insS_u64 {fu a b : Nat} {d : Array Int} (hab : a ≤ b) (hb : b ≤ d.size) (hd : d.size ≤ capN) (hfu : d.size + 3 ≤ fu) : dslices_insertionSortOrdered_uint64 fu d.toList a b = some (Sort.insertionSort Sort.ltInt d a b).toList := by
  unfold capN at hd
  unfold dslices_insertionSortOrdered_uint64
  rw [nW_add1 (i := a) (by omega), ins_out (lt := Sort.ltInt) (a := a) (b := b) (N := d.size) ?_ _ (a + 1) d fu (Nat.le_refl _) rfl (by omega)]
  · rfl
  intro i e he
  dsimp only
  by_cases hc : i < b
  · rw [ins_in (lt := Sort.ltInt) (a := a) (N := d.size) ⟨?_, ?_⟩ i e fu he (by omega) (by omega)]
    · rw [dlt, decide_eq_true hc, if_pos hc, nW_add1 (by omega)]; rfl
    · intro e he h0
      dsimp only
      rw [dgt, decide_eq_false (by omega)]; rfl
    · intro j e he hj
      dsimp only
      rw [W_pre (by omega), swA e (by omega) (by omega), dgt]
      by_cases hc2 : j + 1 > a
      · simp only [decide_eq_true hc2, cond_true, gA e (show j + 1 < e.size by omega), gA e (show j < e.size by omega), less_u64, Option.bind_some, Bool.true_and, condI]
      · simp only [decide_eq_false hc2, cond_false, Option.bind_some, Bool.false_and, if_neg (show ¬ (false = true) by simp)]
  · rw [dlt, decide_eq_false hc, if_neg hc]; rfl

theorem sift_u64 {fu hi first root : Nat} {d : Array Int} (hr : root ≤ hi) (hh : first + hi ≤ d.size) (hd : d.size ≤ capN) (hfu : d.size + 3 ≤ fu) : dslices_siftDownOrdered_uint64 fu d.toList root hi first = some (Sort.siftDown Sort.ltInt hi first root d).toList := by
  unfold capN at hd
  unfold dslices_siftDownOrdered_uint64
  refine sift_lb (lt := Sort.ltInt) (hi := hi) (first := first) (N := d.size) (fun l => ⟨rfl, rfl⟩) ?_ root d fu rfl hr (by omega)
  intro root e he hr
  dsimp only
  by_cases hc : 2 * root + 1 ≥ hi
  · refine ⟨.inl, fun _ => .inl rfl, ?_⟩
    have e1 : W (W (2 * (root : Int)) + 1) = ((2 * root + 1 : Nat) : Int) := by
      rw [show (2 * (root : Int)) = ((2 * root : Nat) : Int) by omega, W_nat (by omega), nW_add1 (by omega)]
    rw [e1]
    simp only [Option.bind_some, dge, decide_eq_true hc, cond_true]
    unfold siftB
    rw [if_pos hc]; rfl
  · refine ⟨.inr, fun _ => .inr rfl, ?_⟩
    have e1 : W (W (2 * (root : Int)) + 1) = ((2 * root + 1 : Nat) : Int) := by
      rw [show (2 * (root : Int)) = ((2 * root : Nat) : Int) by omega, W_nat (by omega), nW_add1 (by omega)]
    rw [e1]
    simp only [Option.bind_some, dge, decide_eq_false hc, cond_false]
    have e2 : W (((2 * root + 1 : Nat) : Int) + 1) = ((2 * root + 2 : Nat) : Int) := nW_add1 (by omega)
    have e3 : W ((first : Int) + ((2 * root + 1 : Nat) : Int)) = ((first + (2 * root + 1) : Nat) : Int) := nW_add (by omega)
    have e4 : W (((first + (2 * root + 1) : Nat) : Int) + 1) = ((first + (2 * root + 1) + 1 : Nat) : Int) := nW_add1 (by omega)
    have e5 : W ((first : Int) + (root : Int)) = ((first + root : Nat) : Int) := nW_add (by omega)
    rw [e2, e3, e4, e5]
    unfold siftB
    rw [if_neg hc]
    have key : ∀ c : Nat, root < c → c < hi → ((gi e.toList ((first + root : Nat) : Int)).bind fun x5 => (gi e.toList (W ((first : Int) + (c : Int)))).bind fun x6 => bif (!Sort.ltInt x5 x6) then some (Sum.inr (Sum.inr e.toList)) else ((gi e.toList (W ((first : Int) + (c : Int)))).bind fun x11 => (gi e.toList ((first + root : Nat) : Int)).bind fun x12 => (gi e.toList ((first + root : Nat) : Int)).bind fun x13 => (sti e.toList ((first + root : Nat) : Int) x11).bind fun data4 => (gi data4 (W ((first : Int) + (c : Int)))).bind fun x14 => (sti data4 (W ((first : Int) + (c : Int))) x12).bind fun data5 => (some (Sum.inl ((c : Int), data5)) : Option ((Int × List Int) ⊕ (List Int ⊕ List Int)))))
        = some (siftO .inr (if (!Sort.ltInt e[first + root]! e[first + c]!) = true then .inr e else .inl (c, Sort.swp e (first + root) (first + c)))) := by
      intro c h1 h2
      rw [nW_add (i := first) (j := c) (by omega), swA e (by omega) (by omega)]
      simp only [gA e (show first + root < e.size by omega), gA e (show first + c < e.size by omega), less_u64, Option.bind_some]
      cases Sort.ltInt e[first + root]! e[first + c]! <;> rfl
    by_cases h2 : 2 * root + 1 + 1 < hi
    · have hd1 : decide (2 * root + 1 + 1 < hi) = true := decide_eq_true h2
      have hd2 : decide (2 * root + 2 < hi) = true := decide_eq_true h2
      simp only [dlt, hd1, hd2, cond_true, gA e (show first + (2 * root + 1) < e.size by omega), gA e (show first + (2 * root + 1) + 1 < e.size by omega), less_u64, Option.bind_some, Bool.true_and]
      cases h3 : Sort.ltInt e[first + (2 * root + 1)]! e[first + (2 * root + 1) + 1]! with
      | true => rw [if_pos rfl]; exact key (2 * root + 2) (by omega) (by omega)
      | false => rw [if_neg Bool.false_ne_true]; exact key (2 * root + 1) (by omega) (by omega)
    · have hd1 : decide (2 * root + 1 + 1 < hi) = false := decide_eq_false h2
      have hd2 : decide (2 * root + 2 < hi) = false := decide_eq_false h2
      simp only [dlt, hd1, hd2, cond_false, Option.bind_some, Bool.false_and, less_u64]
      rw [if_neg Bool.false_ne_true]
      exact key (2 * root + 1) (by omega) (by omega)

theorem heap_u64 {fu a b : Nat} {d : Array Int} (hab : a ≤ b) (hb : b ≤ d.size) (hd : d.size ≤ capN) (hfu : d.size + 3 ≤ fu) : dslices_heapSortOrdered_uint64 fu d.toList a b = some (Sort.heapSort Sort.ltInt d a b).toList := by
  have hd' := hd
  unfold capN at hd
  unfold dslices_heapSortOrdered_uint64
  rw [nW_sub (i := b) (j := a) (by omega) hab]
  have eq : quoV .i64 (W (((b - a : Nat) : Int) - 1)) 2 = some ((((b - a - 1) / 2 + 1 : Nat) : Int) - 1) := by
    by_cases h0 : b - a = 0
    · rw [h0]; decide
    · rw [nW_sub1 (by omega) (by omega)]
      unfold quoV
      rw [if_neg (by decide)]
      congr 1
      have : (((b - a - 1 : Nat) : Int)).tdiv 2 = ((((b - a - 1) / 2 : Nat)) : Int) := rfl
      rw [this]
      have := wrap_i64 (m := (b - a - 1) / 2) (by omega)
      rw [this]; omega
  rw [eq, Option.bind_some, hb_l (lt := Sort.ltInt) (hi := b - a) (first := a) (N := d.size) ?_ ?_ ((b - a - 1) / 2 + 1) d fu rfl (by omega) (by omega)]
  · have es : (Sort.heapBuild Sort.ltInt (b - a) a ((b - a - 1) / 2 + 1) d).size = d.size := size_heapBuild _ _ _ _
    have e0 : W (((b - a : Nat) : Int) - 1) = ((b - a : Nat) : Int) - 1 := by
      by_cases h0 : b - a = 0
      · rw [h0]; decide
      · rw [nW_sub1 (by omega) (by omega)]; omega
    simp only [Option.bind_some, e0]
    rw [hp_l (lt := Sort.ltInt) (first := a) (M := b - a) (N := d.size) ?_ ?_ (b - a) _ fu es (Nat.le_refl _) (by omega)]
    · rfl
    · intro e he
      dsimp only
      rw [show decide ((-1 : Int) ≥ 0) = false from rfl]; rfl
    · intro k e he hk
      dsimp only
      rw [show decide ((k : Int) ≥ 0) = true from decide_eq_true (by omega), nW_add (i := a) (j := k) (by omega), swA e (by omega) (by omega)]
      have h1 := sift_u64 (fu := fu) (hi := k) (first := a) (root := 0) (d := Sort.swp e a (a + k)) (by omega) (by rw [size_swp]; omega) (by rw [size_swp, he]; exact hd') (by rw [size_swp]; omega)
      simp only [cond_true]
      rw [show ((0 : Int)) = ((0 : Nat) : Int) from rfl, h1]
      simp only [Option.bind_some]
      congr 3
      cases k with
      | zero => rfl
      | succ k => rw [W_pre (by omega)]; omega
  · intro e he
    dsimp only
    rw [show decide ((-1 : Int) ≥ 0) = false from rfl]; rfl
  · intro k e he hk
    dsimp only
    rw [show decide ((k : Int) ≥ 0) = true from decide_eq_true (by omega)]
    have h1 := sift_u64 (fu := fu) (hi := b - a) (first := a) (root := k) (d := e) hk (by omega) (by rw [he]; exact hd') (by omega)
    simp only [cond_true]
    rw [h1]
    simp only [Option.bind_some]
    congr 3
    cases k with
    | zero => rfl
    | succ k => rw [W_pre (by omega)]; omega

theorem rev_u64 {fu a b : Nat} {d : Array Int} (hab : a < b) (hb : b ≤ d.size) (hd : d.size ≤ capN) (hfu : d.size + 3 ≤ fu) : dslices_reverseRangeOrdered_uint64 fu d.toList a b = some (Sort.reverseRange d a b).toList := by
  unfold capN at hd
  unfold dslices_reverseRangeOrdered_uint64
  rw [nW_sub1 (by omega) (by omega), rev_l (N := d.size) ?_ _ a (b - 1) d fu (Nat.le_refl _) rfl (by omega) (by omega)]
  · rfl
  intro i j e he hj
  dsimp only
  rw [dlt]
  by_cases hc : i < j
  · rw [decide_eq_true hc, swA e (by omega) (by omega), if_pos hc, nW_add1 (by omega), nW_sub1 (by omega) (by omega)]; rfl
  · rw [decide_eq_false hc, if_neg hc]; rfl

theorem scu {p : Int → Bool} {d : Array Int} {fu i j : Nat} {f : Int → Option Bool} (hj : j < d.size) (hi : i ≤ d.size) (hd : d.size ≤ capN) (hfu : d.size + 3 ≤ fu) (hf : ∀ i : Nat, i < d.size → f (i : Int) = some (p d[i]!)) :
    loopD (ε := Int) (τ := Int) (fun i4 => (bif decide (i4 ≤ (j : Int)) then f i4 else some false : Option Bool).bind fun x8 => bif x8 then some (Sum.inl (W (i4 + 1))) else some (Sum.inr i4)) fu (i : Int) = some ((Sort.scanUp p d j i : Nat) : Int) := by
  unfold capN at hd
  refine scanUp_l (B := d.size) ?_ (by omega) _ i fu (Nat.le_refl _) hi (by omega)
  intro k hk
  rw [dle]
  by_cases hc : k ≤ j
  · rw [decide_eq_true hc, cond_true, hf k (by omega), nW_add1 (by omega)]
    simp only [Option.bind_some, Bool.true_and, condI]
  · rw [decide_eq_false hc]; simp
theorem scd {p : Int → Bool} {d : Array Int} {fu i j : Nat} {f : Int → Option Bool} (h1 : 1 ≤ i) (hj : j < d.size) (hd : d.size ≤ capN) (hfu : d.size + 3 ≤ fu) (hf : ∀ i : Nat, i < d.size → f (i : Int) = some (p d[i]!)) :
    loopD (ε := Int) (τ := Int) (fun j3 => (bif decide ((i : Int) ≤ j3) then f j3 else some false : Option Bool).bind fun x12 => bif x12 then some (Sum.inl (W (j3 - 1))) else some (Sum.inr j3)) fu (j : Int) = some ((Sort.scanDown p d i j : Nat) : Int) := by
  unfold capN at hd
  refine scanDown_l (B := j) ?_ ?_ j fu (Nat.le_refl _) (by omega)
  · rw [dle, decide_eq_false (by omega)]; rfl
  · intro k hk
    rw [dle]
    by_cases hc : i ≤ k + 1
    · rw [decide_eq_true hc, cond_true, hf (k + 1) (by omega), W_pre (by omega)]
      simp only [Option.bind_some, Bool.true_and, condI]
    · rw [decide_eq_false hc]; simp
theorem sc_in {p : Int → Bool} {d : Array Int} {i j : Nat} : i ≤ Sort.scanUp p d j i ∧ ∀ k, Sort.scanDown p d k j ≤ j := ⟨Sort.scanUp_ge p d j i, fun k => Sort.scanDown_le p d k j⟩

theorem swA0 {β : Type} (d : Array Int) {i j : Nat} (hi : i < d.size) (hj : j < d.size) (k : List Int → Option β) :
    ((gi d.toList (j : Int)).bind fun x => (gi d.toList (i : Int)).bind fun y => (gi d.toList (i : Int)).bind fun _ => (sti d.toList (i : Int) x).bind fun L => (gi L (j : Int)).bind fun _ => (sti L (j : Int) y).bind k) = k (Sort.swp d i j).toList := swA d hi hj k

theorem part_u64 {fu a b pv : Nat} {d : Array Int} (ha : a ≤ pv) (hp : pv < b) (hb : b ≤ d.size) (hd : d.size ≤ capN) (hfu : d.size + 3 ≤ fu) :
    dslices_partitionOrdered_uint64 fu d.toList a b pv = some (((Sort.partition Sort.ltInt d a b pv).1 : Int), (Sort.partition Sort.ltInt d a b pv).2.1, (Sort.partition Sort.ltInt d a b pv).2.2.toList) := by
  have hd' := hd
  unfold capN at hd
  unfold dslices_partitionOrdered_uint64
  rw [swA d (by omega) (by omega), nW_sub1 (i := b) (by omega) (by omega), nW_add1 (i := a) (by omega)]
  have hsz : (Sort.swp d a pv).size = d.size := size_swp d a pv
  generalize hd1 : Sort.swp d a pv = d1 at hsz
  rw [scu (p := fun x => Sort.ltInt x d1[a]!) (d := d1) (f := fun i1 => (gi d1.toList i1).bind fun x9 => (gi d1.toList (a : Int)).bind fun x10 => (dcmp_Less_uint64 fu x9 x10).bind fun x11 => some x11) (by omega) (by omega) (by rw [hsz]; exact hd') (by omega)
    (fun i hi => by rw [gA d1 hi, gA d1 (show a < d1.size by omega)]; simp only [Option.bind_some, less_u64])]
  simp only [Option.bind_some]
  have h1 := (sc_in (p := fun x => Sort.ltInt x d1[a]!) (d := d1) (i := a + 1) (j := b - 1)).1
  generalize hi3 : Sort.scanUp (fun x => Sort.ltInt x d1[a]!) d1 (b - 1) (a + 1) = i3 at h1
  rw [scd (p := fun x => !Sort.ltInt x d1[a]!) (d := d1) (i := i3) (f := fun j1 => (gi d1.toList j1).bind fun x13 => (gi d1.toList (a : Int)).bind fun x14 => (dcmp_Less_uint64 fu x13 x14).bind fun x15 => some (!x15)) (by omega) (by omega) (by rw [hsz]; exact hd') (by omega)
    (fun i hi => by rw [gA d1 hi, gA d1 (show a < d1.size by omega)]; simp only [Option.bind_some, less_u64])]
  simp only [Option.bind_some]
  have h2 := (sc_in (p := fun x => !Sort.ltInt x d1[a]!) (d := d1) (i := i3) (j := b - 1)).2 i3
  generalize hj3 : Sort.scanDown (fun x => !Sort.ltInt x d1[a]!) d1 i3 (b - 1) = j3 at h2
  rw [dgt]
  unfold Sort.partition
  simp only [hd1, hi3, hj3]
  by_cases hc : i3 > j3
  · rw [decide_eq_true hc, cond_true, swA0 d1 (by omega) (by omega), if_pos hc]
  · rw [decide_eq_false hc, cond_false, swA0 d1 (by omega) (by omega), if_neg hc, nW_add1 (by omega), nW_sub1 (by omega) (by omega)]
    have hs2 : (Sort.swp d1 i3 j3).size = d.size := by rw [size_swp, hsz]
    rw [part_l (lt := Sort.ltInt) (a := a) (N := d.size) ?_ _ (i3 + 1) (j3 - 1) (Sort.swp d1 i3 j3) fu (Nat.le_refl _) hs2 (by omega) (by omega) (by omega) (by omega)]
    · simp only [Option.bind_some]
      obtain ⟨hsz2, hle⟩ := in_partLoop (lt := Sort.ltInt) a _ (i3 + 1) (j3 - 1) (Sort.swp d1 i3 j3) (Nat.le_refl _)
      rw [swA0 _ (by omega) (by omega)]
    · intro i j e he h1 hiN hj
      dsimp only
      rw [scu (p := fun x => Sort.ltInt x e[a]!) (d := e) (f := fun i1 => (gi e.toList i1).bind fun x9 => (gi e.toList (a : Int)).bind fun x10 => (dcmp_Less_uint64 fu x9 x10).bind fun x11 => some x11) (by omega) (by omega) (by rw [he]; exact hd') (by omega)
        (fun i hi => by rw [gA e hi, gA e (show a < e.size by omega)]; simp only [Option.bind_some, less_u64])]
      simp only [Option.bind_some]
      have g1 := (sc_in (p := fun x => Sort.ltInt x e[a]!) (d := e) (i := i) (j := j)).1
      generalize Sort.scanUp (fun x => Sort.ltInt x e[a]!) e j i = i8 at g1
      rw [scd (p := fun x => !Sort.ltInt x e[a]!) (d := e) (i := i8) (f := fun j1 => (gi e.toList j1).bind fun x13 => (gi e.toList (a : Int)).bind fun x14 => (dcmp_Less_uint64 fu x13 x14).bind fun x15 => some (!x15)) (by omega) (by omega) (by rw [he]; exact hd') (by omega)
        (fun i hi => by rw [gA e hi, gA e (show a < e.size by omega)]; simp only [Option.bind_some, less_u64])]
      simp only [Option.bind_some]
      have g2 := (sc_in (p := fun x => !Sort.ltInt x e[a]!) (d := e) (i := i8) (j := j)).2 i8
      generalize Sort.scanDown (fun x => !Sort.ltInt x e[a]!) e i8 j = j9 at g2
      rw [dgt]
      by_cases hc : i8 > j9
      · rw [decide_eq_true hc, if_pos hc]; rfl
      · rw [decide_eq_false hc, if_neg hc, cond_false, swA0 e (by omega) (by omega), nW_add1 (by omega), nW_sub1 (by omega) (by omega)]

theorem partEq_u64 {fu a b pv : Nat} {d : Array Int} (ha : a ≤ pv) (hp : pv < b) (hb : b ≤ d.size) (hd : d.size ≤ capN) (hfu : d.size + 3 ≤ fu) :
    dslices_partitionEqualOrdered_uint64 fu d.toList a b pv = some (((Sort.partitionEqual Sort.ltInt d a b pv).1 : Int), (Sort.partitionEqual Sort.ltInt d a b pv).2.toList) := by
  have hd' := hd
  unfold capN at hd
  unfold dslices_partitionEqualOrdered_uint64
  rw [swA d (by omega) (by omega), nW_sub1 (i := b) (by omega) (by omega), nW_add1 (i := a) (by omega)]
  have hsz : (Sort.swp d a pv).size = d.size := size_swp d a pv
  rw [partEq_l (lt := Sort.ltInt) (a := a) (N := d.size) ?_ _ (a + 1) (b - 1) (Sort.swp d a pv) fu (Nat.le_refl _) hsz (by omega) (by omega) (by omega) (by omega)]
  · rfl
  · intro i j e he h1 hiN hj
    dsimp only
    rw [scu (p := fun x => !Sort.ltInt e[a]! x) (d := e) (f := fun i4 => (gi e.toList (a : Int)).bind fun x9 => (gi e.toList i4).bind fun x10 => (dcmp_Less_uint64 fu x9 x10).bind fun x11 => some (!x11)) (by omega) (by omega) (by rw [he]; exact hd') (by omega)
      (fun i hi => by rw [gA e hi, gA e (show a < e.size by omega)]; simp only [Option.bind_some, less_u64])]
    simp only [Option.bind_some]
    have g1 := (sc_in (p := fun x => !Sort.ltInt e[a]! x) (d := e) (i := i) (j := j)).1
    generalize Sort.scanUp (fun x => !Sort.ltInt e[a]! x) e j i = i8 at g1
    rw [scd (p := fun x => Sort.ltInt e[a]! x) (d := e) (i := i8) (f := fun j3 => (gi e.toList (a : Int)).bind fun x13 => (gi e.toList j3).bind fun x14 => (dcmp_Less_uint64 fu x13 x14).bind fun x15 => some x15) (by omega) (by omega) (by rw [he]; exact hd') (by omega)
      (fun i hi => by rw [gA e hi, gA e (show a < e.size by omega)]; simp only [Option.bind_some, less_u64])]
    simp only [Option.bind_some]
    have g2 := (sc_in (p := fun x => Sort.ltInt e[a]! x) (d := e) (i := i8) (j := j)).2 i8
    generalize Sort.scanDown (fun x => Sort.ltInt e[a]! x) e i8 j = j9 at g2
    rw [dgt]
    by_cases hc : i8 > j9
    · rw [decide_eq_true hc, if_pos hc]; rfl
    · rw [decide_eq_false hc, if_neg hc, cond_false, swA0 e (by omega) (by omega), nW_add1 (by omega), nW_sub1 (by omega) (by omega)]

theorem pins_u64 {fu a b : Nat} {d : Array Int} (hab : a < b) (hb : b ≤ d.size) (hd : d.size ≤ capN) (hfu : d.size + 8 ≤ fu) :
    dslices_partialInsertionSortOrdered_uint64 fu d.toList a b = some ((Sort.partialInsertionSort Sort.ltInt d a b).2, (Sort.partialInsertionSort Sort.ltInt d a b).1.toList) := by
  unfold capN at hd
  unfold dslices_partialInsertionSortOrdered_uint64
  rw [nW_add1 (i := a) (by omega), nW_sub (i := b) (j := a) (by omega) (by omega)]
  refine pi_lb (lt := Sort.ltInt) (N := d.size) hab ⟨fun l => rfl, fun l => rfl⟩ ?_ ?_ d fu rfl (by omega)
  · intro i e
    dsimp only
    rw [show decide ((5 : Int) < 5) = false from rfl]; rfl
  · intro i j e he hj hi hib
    dsimp only
    rw [show decide ((j : Int) < 5) = true from decide_eq_true (by omega), cond_true]
    have hsc : loopD (ε := Int) (τ := Int) (fun i4 => (bif decide (i4 < (b : Int)) then (gi e.toList i4).bind fun x2 => (gi e.toList (W (i4 - 1))).bind fun x3 => (dcmp_Less_uint64 fu x2 x3).bind fun x4 => some (!x4) else some false : Option Bool).bind fun x1 => bif x1 then some (Sum.inl (W (i4 + 1))) else some (Sum.inr i4)) fu (i : Int) = some ((Sort.scanSorted Sort.ltInt e b i : Nat) : Int) := by
      refine scanS_l ?_ _ i fu (Nat.le_refl _) (by omega) hib (by omega)
      intro k h1 hk
      rw [dlt]
      by_cases hc : k < b
      · rw [decide_eq_true hc, cond_true, nW_sub1 (i := k) (by omega) (by omega), gA e (show k < e.size by omega), gA e (show k - 1 < e.size by omega), nW_add1 (by omega)]
        simp only [Option.bind_some, less_u64, Bool.true_and, condI]
      · rw [decide_eq_false hc]; simp
    rw [hsc]
    have hin := scanS_in (lt := Sort.ltInt) e b _ i (Nat.le_refl _) hib
    generalize Sort.scanSorted Sort.ltInt e b i = i2 at hin
    simp only [Option.bind_some]
    rw [show (((i2 : Int) == (b : Int)) = decide (i2 = b)) by rw [Bool.eq_iff_iff]; simp; omega]
    by_cases hc : i2 = b
    · rw [decide_eq_true hc, if_pos hc]; rfl
    · rw [decide_eq_false hc, if_neg hc, cond_false, show decide (((b - a : Nat) : Int) < 50) = decide (b - a < 50) by rw [Bool.eq_iff_iff]; simp; omega]
      by_cases hc2 : b - a < 50
      · rw [decide_eq_true hc2, if_pos hc2]; rfl
      · rw [decide_eq_false hc2, if_neg hc2, cond_false, nW_sub1 (i := i2) (by omega) (by omega), swA e (by omega) (by omega), nW_sub (i := i2) (j := a) (by omega) (by omega), nW_sub (i := b) (j := i2) (by omega) (by omega), nW_add1 (i := i2) (by omega), nW_add1 (i := j) (by omega)]
        have hs1 : (Sort.swp e i2 (i2 - 1)).size = d.size := by rw [size_swp, he]
        have hA : ∀ f : Array Int, f.size = d.size → loopD (ε := Int × List Int) (τ := List Int) (fun (((j3, data8)) : Int × List Int) => bif decide (j3 ≥ 1) then ((gi data8 j3).bind fun x12 => (gi data8 (W (j3 - 1))).bind fun x13 => (dcmp_Less_uint64 fu x12 x13).bind fun x14 => bif (!x14) then some (Sum.inr data8) else ((gi data8 (W (j3 - 1))).bind fun x18 => (gi data8 j3).bind fun x19 => (gi data8 j3).bind fun x20 => (sti data8 j3 x18).bind fun data11 => (gi data11 (W (j3 - 1))).bind fun x21 => (sti data11 (W (j3 - 1)) x19).bind fun data12 => some (Sum.inl (W (j3 - 1), data12)))) else some (Sum.inr data8)) fu (((i2 - 1 : Nat) : Int), f.toList) = some (Sort.shiftDown Sort.ltInt (i2 - 1) f).toList := by
          intro f hf
          refine shD_l (N := d.size) ?_ ?_ (i2 - 1) f fu hf (by omega) (by omega)
          · intro g hg; rfl
          · intro k g hg hk
            dsimp only
            rw [show decide (((k + 1 : Nat) : Int) ≥ 1) = true from decide_eq_true (by omega), cond_true, W_pre (by omega), gA g (show k + 1 < g.size by omega), Option.bind_some, gA g (show k < g.size by omega), Option.bind_some, less_u64, Option.bind_some]
            cases Sort.ltInt g[k + 1]! g[k]!
            · rfl
            · have := swA g (i := k + 1) (j := k) (by omega) (by omega) (fun data12 => (some (Sum.inl ((k : Int), data12)) : Option ((Int × List Int) ⊕ List Int)))
              rw [gA g (show k + 1 < g.size by omega), gA g (show k < g.size by omega)] at this
              exact this
        have hB : ∀ f : Array Int, f.size = d.size → loopD (ε := Int × List Int) (τ := List Int) (fun (((j5, data13)) : Int × List Int) => bif decide (j5 < (b : Int)) then ((gi data13 j5).bind fun x22 => (gi data13 (W (j5 - 1))).bind fun x23 => (dcmp_Less_uint64 fu x22 x23).bind fun x24 => bif (!x24) then some (Sum.inr data13) else ((gi data13 (W (j5 - 1))).bind fun x28 => (gi data13 j5).bind fun x29 => (gi data13 j5).bind fun x30 => (sti data13 j5 x28).bind fun data16 => (gi data16 (W (j5 - 1))).bind fun x31 => (sti data16 (W (j5 - 1)) x29).bind fun data17 => some (Sum.inl (W (j5 + 1), data17)))) else some (Sum.inr data13)) fu (((i2 + 1 : Nat) : Int), f.toList) = some (Sort.shiftUp Sort.ltInt b (i2 + 1) f).toList := by
          intro f hf
          refine shU_l (N := d.size) hb ?_ _ (i2 + 1) f fu (Nat.le_refl _) (by omega) hf (by omega)
          intro k g hg hk
          dsimp only
          rw [dlt]
          by_cases hkb : k < b
          · rw [decide_eq_true hkb, if_pos hkb, cond_true, nW_sub1 (i := k) (by omega) hk, nW_add1 (i := k) (by omega), gA g (show k < g.size by omega), Option.bind_some, gA g (show k - 1 < g.size by omega), Option.bind_some, less_u64, Option.bind_some]
            cases Sort.ltInt g[k]! g[k - 1]!
            · rfl
            · have := swA g (i := k) (j := k - 1) (by omega) (by omega) (fun data12 => (some (Sum.inl (((k + 1 : Nat) : Int), data12)) : Option ((Int × List Int) ⊕ List Int)))
              rw [gA g (show k < g.size by omega), gA g (show k - 1 < g.size by omega)] at this
              exact this
          · rw [decide_eq_false hkb, if_neg hkb]; rfl
        have e1 : (bif decide (((i2 - a : Nat) : Int) ≥ 2) then (some (Sort.shiftDown Sort.ltInt (i2 - 1) (Sort.swp e i2 (i2 - 1))).toList : Option (List Int)) else some (Sort.swp e i2 (i2 - 1)).toList) = some (if i2 - a ≥ 2 then Sort.shiftDown Sort.ltInt (i2 - 1) (Sort.swp e i2 (i2 - 1)) else Sort.swp e i2 (i2 - 1)).toList := by
          rw [show decide (((i2 - a : Nat) : Int) ≥ 2) = decide (i2 - a ≥ 2) by rw [Bool.eq_iff_iff]; simp; omega]
          by_cases h : i2 - a ≥ 2
          · rw [decide_eq_true h, if_pos h]; rfl
          · rw [decide_eq_false h, if_neg h]; rfl
        rw [hA _ hs1]
        simp only [Option.bind_some]
        rw [e1]
        simp only [Option.bind_some]
        unfold piD
        simp only
        have hs2 : (if i2 - a ≥ 2 then Sort.shiftDown Sort.ltInt (i2 - 1) (Sort.swp e i2 (i2 - 1)) else Sort.swp e i2 (i2 - 1)).size = d.size := by
          split
          · rw [size_shiftDown, hs1]
          · exact hs1
        rw [hB _ hs2]
        rw [show decide (((b - i2 : Nat) : Int) ≥ 2) = decide (b - i2 ≥ 2) by rw [Bool.eq_iff_iff]; simp; omega]
        by_cases h : b - i2 ≥ 2
        · rw [decide_eq_true h, if_pos h]; rfl
        · rw [decide_eq_false h, if_neg h]; rfl

/-! ### the pivot, and what is shuffled -/
theorem ord2 {fu x y : Nat} {sw : Int} {d : Array Int} (hx : x < d.size) (hy : y < d.size) : ∃ s' : Int, dslices_order2Ordered_uint64 fu d.toList x y sw = some ((x : Int), (y : Int), s', d.toList) ∨ dslices_order2Ordered_uint64 fu d.toList x y sw = some ((y : Int), (x : Int), s', d.toList) := by
  unfold dslices_order2Ordered_uint64
  rw [gA d hy, gA d hx]
  simp only [Option.bind_some, less_u64]
  cases Sort.ltInt d[y]! d[x]!
  · exact ⟨sw, .inl rfl⟩
  · exact ⟨_, .inr rfl⟩
theorem med {fu x y z : Nat} {sw : Int} {d : Array Int} (hx : x < d.size) (hy : y < d.size) (hz : z < d.size) : ∃ (m : Nat) (s' : Int), (m = x ∨ m = y ∨ m = z) ∧ dslices_medianOrdered_uint64 fu d.toList x y z sw = some ((m : Int), s', d.toList) := by
  unfold dslices_medianOrdered_uint64
  obtain ⟨s1, h1 | h1⟩ := ord2 (fu := fu) (sw := sw) hx hy
  · rw [h1]
    simp only [Option.bind_some]
    obtain ⟨s2, h2 | h2⟩ := ord2 (fu := fu) (sw := s1) hy hz
    · rw [h2]
      simp only [Option.bind_some]
      obtain ⟨s3, h3 | h3⟩ := ord2 (fu := fu) (sw := s2) hx hy
      · rw [h3]; exact ⟨y, s3, by omega, rfl⟩
      · rw [h3]; exact ⟨x, s3, by omega, rfl⟩
    · rw [h2]
      simp only [Option.bind_some]
      obtain ⟨s3, h3 | h3⟩ := ord2 (fu := fu) (sw := s2) hx hz
      · rw [h3]; exact ⟨z, s3, by omega, rfl⟩
      · rw [h3]; exact ⟨x, s3, by omega, rfl⟩
  · rw [h1]
    simp only [Option.bind_some]
    obtain ⟨s2, h2 | h2⟩ := ord2 (fu := fu) (sw := s1) hx hz
    · rw [h2]
      simp only [Option.bind_some]
      obtain ⟨s3, h3 | h3⟩ := ord2 (fu := fu) (sw := s2) hy hx
      · rw [h3]; exact ⟨x, s3, by omega, rfl⟩
      · rw [h3]; exact ⟨y, s3, by omega, rfl⟩
    · rw [h2]
      simp only [Option.bind_some]
      obtain ⟨s3, h3 | h3⟩ := ord2 (fu := fu) (sw := s2) hy hz
      · rw [h3]; exact ⟨z, s3, by omega, rfl⟩
      · rw [h3]; exact ⟨y, s3, by omega, rfl⟩
theorem medA {fu x : Nat} {sw : Int} {d : Array Int} (h1 : 1 ≤ x) (hx : x + 1 < d.size) (hd : d.size ≤ capN) : ∃ (m : Nat) (s' : Int), x - 1 ≤ m ∧ m ≤ x + 1 ∧ dslices_medianAdjacentOrdered_uint64 fu d.toList x sw = some ((m : Int), s', d.toList) := by
  unfold capN at hd
  unfold dslices_medianAdjacentOrdered_uint64
  rw [nW_sub1 (by omega) h1, nW_add1 (by omega)]
  obtain ⟨m, s', h, e⟩ := med (fu := fu) (sw := sw) (d := d) (x := x - 1) (y := x) (z := x + 1) (by omega) (by omega) (by omega)
  rw [e]
  exact ⟨m, s', by omega, by omega, rfl⟩
theorem quo_n {n k : Nat} (hn : n < 9223372036854775808) (hk : 0 < k) (hk2 : k < 9223372036854775808) : quoV .i64 (n : Int) (k : Int) = some ((n / k : Nat) : Int) := by
  unfold quoV
  rw [if_neg (by omega)]
  congr 1
  have h1 : ((n : Int)).tdiv (k : Int) = ((n / k : Nat) : Int) := rfl
  rw [h1]
  exact wrap_i64 (m := n / k) (Nat.lt_of_le_of_lt (Nat.div_le_self _ _) hn)
theorem nW_mul {i j : Nat} (h : i * j < 9223372036854775808) : W ((i : Int) * (j : Int)) = ((i * j : Nat) : Int) := by
  rw [← W_nat h]; congr 1
theorem pivot_u64 {fu a b : Nat} {d : Array Int} (hab : a + 12 < b) (hb : b ≤ d.size) (hd : d.size ≤ capN) : ∃ (p : Nat) (h : Int), a ≤ p ∧ p < b ∧ dslices_choosePivotOrdered_uint64 fu d.toList a b = some ((p : Int), h, d.toList) := by
  have hd' := hd
  unfold capN at hd
  unfold dslices_choosePivotOrdered_uint64
  rw [nW_sub (i := b) (j := a) (by omega) (by omega), show (4 : Int) = ((4 : Nat) : Int) from rfl, quo_n (by omega) (by omega) (by omega)]
  simp only [Option.bind_some]
  rw [show (1 : Int) = ((1 : Nat) : Int) from rfl, show (2 : Int) = ((2 : Nat) : Int) from rfl, show (3 : Int) = ((3 : Nat) : Int) from rfl, nW_mul (by omega), nW_mul (by omega), nW_mul (by omega), nW_add (by omega), nW_add (by omega), nW_add (by omega)]
  have h8 : decide (((b - a : Nat) : Int) ≥ 8) = true := decide_eq_true (by omega)
  rw [h8, cond_true]
  have fin : ∀ (i j k : Nat) (sw : Int), a ≤ i → i < b → a ≤ j → j < b → a ≤ k → k < b → ∃ (p : Nat) (h : Int), a ≤ p ∧ p < b ∧
      (((dslices_medianOrdered_uint64 fu d.toList i j k sw).bind fun j5 => some (j5.1, j5.2.1, j5.2.2)).bind fun x => match x with | (j2, swaps1, l1) => (bif (swaps1 == 0) then some (j2, ((1 : Nat) : Int), l1) else (bif (swaps1 == 12) then some (j2, ((2 : Nat) : Int), l1) else some (j2, 0, l1)))) = some ((p : Int), h, d.toList) := by
    intro i j k sw h1 h2 h3 h4 h5 h6
    obtain ⟨m, s', hm, e⟩ := med (fu := fu) (sw := sw) (d := d) (x := i) (y := j) (z := k) (by omega) (by omega) (by omega)
    rw [e]
    simp only [Option.bind_some]
    cases s' == 0
    · cases s' == 12
      · exact ⟨m, 0, by omega, by omega, rfl⟩
      · exact ⟨m, _, by omega, by omega, rfl⟩
    · exact ⟨m, _, by omega, by omega, rfl⟩
  by_cases h50 : b - a ≥ 50
  · have e50 : decide (((b - a : Nat) : Int) ≥ 50) = true := decide_eq_true (by omega)
    rw [e50, cond_true]
    obtain ⟨m1, s1, a1, b1, q1⟩ := medA (fu := fu) (sw := 0) (d := d) (x := a + (b - a) / 4 * 1) (by omega) (by omega) hd'
    obtain ⟨m2, s2, a2, b2, q2⟩ := medA (fu := fu) (sw := s1) (d := d) (x := a + (b - a) / 4 * 2) (by omega) (by omega) hd'
    obtain ⟨m3, s3, a3, b3, q3⟩ := medA (fu := fu) (sw := s2) (d := d) (x := a + (b - a) / 4 * 3) (by omega) (by omega) hd'
    rw [q1]; simp only [Option.bind_some]
    rw [q2]; simp only [Option.bind_some]
    rw [q3]; simp only [Option.bind_some]
    exact fin m1 m2 m3 s3 (by omega) (by omega) (by omega) (by omega) (by omega) (by omega)
  · have e50 : decide (((b - a : Nat) : Int) ≥ 50) = false := decide_eq_false (by omega)
    rw [e50, cond_false]
    simp only [Option.bind_some]
    exact fin _ _ _ 0 (by omega) (by omega) (by omega) (by omega) (by omega) (by omega)

/-! ### math/bits.Len -/
def lenTab : Str := [0, 1, 2, 2, 3, 3, 3, 3, 4, 4, 4, 4, 4, 4, 4, 4, 5, 5, 5, 5, 5, 5, 5, 5, 5, 5, 5, 5, 5, 5, 5, 5, 6, 6, 6, 6, 6, 6, 6, 6, 6, 6, 6, 6, 6, 6, 6, 6, 6, 6, 6, 6, 6, 6, 6, 6, 6, 6, 6, 6, 6, 6, 6, 6, 7, 7, 7, 7, 7, 7, 7, 7, 7, 7, 7, 7, 7, 7, 7, 7, 7, 7, 7, 7, 7, 7, 7, 7, 7, 7, 7, 7, 7, 7, 7, 7, 7, 7, 7, 7, 7, 7, 7, 7, 7, 7, 7, 7, 7, 7, 7, 7, 7, 7, 7, 7, 7, 7, 7, 7, 7, 7, 7, 7, 7, 7, 7, 7, 8, 8, 8, 8, 8, 8, 8, 8, 8, 8, 8, 8, 8, 8, 8, 8, 8, 8, 8, 8, 8, 8, 8, 8, 8, 8, 8, 8, 8, 8, 8, 8, 8, 8, 8, 8, 8, 8, 8, 8, 8, 8, 8, 8, 8, 8, 8, 8, 8, 8, 8, 8, 8, 8, 8, 8, 8, 8, 8, 8, 8, 8, 8, 8, 8, 8, 8, 8, 8, 8, 8, 8, 8, 8, 8, 8, 8, 8, 8, 8, 8, 8, 8, 8, 8, 8, 8, 8, 8, 8, 8, 8, 8, 8, 8, 8, 8, 8, 8, 8, 8, 8, 8, 8, 8, 8, 8, 8, 8, 8, 8, 8, 8, 8, 8, 8, 8, 8, 8, 8, 8, 8, 8, 8, 8, 8, 8, 8]
theorem lenTab_all : (List.range 256).all (fun x => (lenTab[x]?.map fun c => c.toNat) == some (Sort.bitsLen x)) = true := by decide
theorem lenTab_is {x : Nat} (h : x < 256) : ∃ c : UInt8, gi lenTab (x : Int) = some c ∧ c.toNat = Sort.bitsLen x := by
  have := List.all_eq_true.1 lenTab_all x (List.mem_range.2 h)
  rw [gi_nat]
  cases hx : lenTab[x]? with
  | none => rw [hx] at this; simp at this
  | some c => rw [hx] at this; exact ⟨c, rfl, by simpa using this⟩
theorem bitsLen_div {n k : Nat} (h : 2 ^ k ≤ n) : Sort.bitsLen (n / 2 ^ k) + k = Sort.bitsLen n := by
  have key : ∀ j, Sort.bitsLen (n / 2 ^ k) + k ≤ j ↔ Sort.bitsLen n ≤ j := by
    intro j
    rw [Sort.bitsLen_le_iff]
    by_cases hj : k ≤ j
    · obtain ⟨m, rfl⟩ : ∃ m, j = m + k := ⟨j - k, by omega⟩
      have h1 : Sort.bitsLen (n / 2 ^ k) + k ≤ m + k ↔ Sort.bitsLen (n / 2 ^ k) ≤ m := by omega
      rw [h1, Sort.bitsLen_le_iff, Nat.div_lt_iff_lt_mul (Nat.two_pow_pos k), ← Nat.pow_add]
    · constructor
      · intro h2; omega
      · intro h2
        exfalso
        have := Nat.pow_le_pow_right (show 0 < 2 by omega) (show j ≤ k by omega)
        omega
  have h1 := (key (Sort.bitsLen n)).2 (Nat.le_refl _)
  have h2 := (key (Sort.bitsLen (n / 2 ^ k) + k)).1 (Nat.le_refl _)
  omega
theorem shr_n {n k : Nat} (hk : k ≤ 63) : shrV .u64 (n : Int) (k : Int) = ((n / 2 ^ k : Nat) : Int) := by
  unfold shrV
  rw [show min ((k : Int)).toNat IntKind.u64.bits = k by rw [Int.toNat_natCast]; show min k 64 = k; omega]
  rw [Int.fdiv_eq_ediv_of_nonneg _ (by exact Int.le_of_lt (Int.pow_pos (by decide)))]
  rw [show ((2 : Int) ^ k) = ((2 ^ k : Nat) : Int) by push_cast; rfl]
  rfl
theorem lstep {x n B k : Nat} (hx : x < 2 ^ (B + k)) (hn : n + k < 1000) (hk : k ≤ 63) : ∃ x' n' : Nat, (bif decide ((x : Int) ≥ ((2 ^ k : Nat) : Int)) then some (shrV .u64 (x : Int) (k : Int), W ((n : Int) + (k : Int))) else some ((x : Int), (n : Int)) : Option (Int × Int)) = some ((x' : Int), (n' : Int)) ∧
    Sort.bitsLen x' + n' = Sort.bitsLen x + n ∧ (k ≤ B → x' < 2 ^ B) ∧ n' ≤ n + k := by
  rw [dge]
  by_cases h : x ≥ 2 ^ k
  · rw [decide_eq_true h, cond_true, shr_n hk, nW_add (by omega)]
    refine ⟨_, _, rfl, ?_, fun _ => ?_, Nat.le_refl _⟩
    · have := bitsLen_div h; omega
    · rw [Nat.div_lt_iff_lt_mul (Nat.two_pow_pos k), ← Nat.pow_add]; exact hx
  · rw [decide_eq_false h, cond_false]
    exact ⟨x, n, rfl, rfl, fun hkB => Nat.lt_of_lt_of_le (show x < 2 ^ k by omega) (Nat.pow_le_pow_right (by omega) hkB), by omega⟩
theorem len_u64 {fu n : Nat} (hn : n < 18446744073709551616) : dbits_Len fu (n : Int) = some ((Sort.bitsLen n : Nat) : Int) := by
  unfold dbits_Len dbits_Len64
  obtain ⟨x1, n1, e1, h1, k1, m1⟩ := lstep (x := n) (n := 0) (B := 32) (k := 32) hn (by omega) (by omega)
  have e1' : (bif decide ((n : Int) ≥ 4294967296) then some (shrV .u64 (n : Int) 32, 32) else some ((n : Int), 0) : Option (Int × Int)) = some ((x1 : Int), (n1 : Int)) := e1
  obtain ⟨x2, n2, e2, h2, k2, m2⟩ := lstep (x := x1) (n := n1) (B := 16) (k := 16) (k1 (by omega)) (by omega) (by omega)
  obtain ⟨x3, n3, e3, h3, k3, m3⟩ := lstep (x := x2) (n := n2) (B := 8) (k := 8) (k2 (by omega)) (by omega) (by omega)
  have hx3 : x3 < 256 := k3 (by omega)
  obtain ⟨c, hc, hc2⟩ := lenTab_is hx3
  have e2' : (bif decide ((x1 : Int) ≥ 65536) then some (shrV .u64 (x1 : Int) 16, W ((n1 : Int) + 16)) else some ((x1 : Int), (n1 : Int)) : Option (Int × Int)) = some ((x2 : Int), (n2 : Int)) := e2
  have e3' : (bif decide ((x2 : Int) ≥ 256) then some (shrV .u64 (x2 : Int) 8, W ((n2 : Int) + 8)) else some ((x2 : Int), (n2 : Int)) : Option (Int × Int)) = some ((x3 : Int), (n3 : Int)) := e3
  rw [e1']
  simp only [Option.bind_some]
  rw [e2']
  simp only [Option.bind_some]
  rw [e3']
  simp only [Option.bind_some]
  have hw : IntKind.wrap .u8 (x3 : Int) = (x3 : Int) := by rw [wrap_u8]; omega
  rw [hw]
  have hc' := hc
  unfold lenTab at hc'
  rw [hc']
  simp only [Option.bind_some]
  rw [W_nat (i := c.toNat) (by have := c.toNat_lt; omega), nW_add (by have := c.toNat_lt; omega)]
  congr 2
  omega
theorem and_le {n : Nat} (x : Int) (hn : n < 18446744073709551616) : ∃ m : Nat, m ≤ n ∧ bits .and .u64 x (n : Int) = (m : Int) := by
  refine ⟨(BitVec.ofInt 64 x).toNat &&& n, Nat.and_le_right, ?_⟩
  have h := bits_and_u64_nat (BitVec.ofInt 64 x).toNat n (BitVec.isLt _) hn
  rw [← h]
  unfold bits
  have : BitVec.ofInt IntKind.u64.bits ((BitVec.ofInt 64 x).toNat : Int) = BitVec.ofInt IntKind.u64.bits x := by
    show BitVec.ofInt 64 _ = BitVec.ofInt 64 x
    rw [BitVec.ofInt_natCast, BitVec.ofNat_toNat, BitVec.setWidth_eq]
  rw [this]
theorem pow2_u64 {fu n : Nat} (h0 : 0 < n) (hn : n ≤ 68719476736) : dslices_nextPowerOfTwo fu (n : Int) = some ((2 ^ Sort.bitsLen n : Nat) : Int) := by
  have hL := Sort.two_pow_bitsLen_le h0
  have hLb : Sort.bitsLen n ≤ 63 := (Sort.bitsLen_le_iff _ _).2 (by omega)
  have hw : IntKind.wrap .u64 (n : Int) = (n : Int) := wrap_u64 (by omega)
  unfold dslices_nextPowerOfTwo
  rw [hw, len_u64 (by omega)]
  simp only [Option.bind_some]
  unfold shlO
  rw [if_neg (by omega)]
  simp only [Option.bind_some]
  congr 1
  unfold shlV
  rw [show min (((Sort.bitsLen n : Nat) : Int)).toNat IntKind.u64.bits = Sort.bitsLen n by rw [Int.toNat_natCast]; show min _ 64 = _; omega]
  rw [Int.one_mul, show ((2 : Int) ^ Sort.bitsLen n) = ((2 ^ Sort.bitsLen n : Nat) : Int) by push_cast; rfl]
  exact wrap_u64 (by omega)
theorem pow2_in {fu n : Nat} (h0 : 0 < n) (hn : n ≤ 68719476736) : ∃ M : Nat, dslices_nextPowerOfTwo fu (n : Int) = some (M : Int) ∧ M ≤ 2 * n ∧ 0 < M :=
  ⟨_, pow2_u64 h0 hn, Sort.two_pow_bitsLen_le h0, Nat.two_pow_pos _⟩
theorem break_u64 {fu a b : Nat} {d : Array Int} (hab : a + 12 < b) (hb : b ≤ d.size) (hd : d.size ≤ capN) (hfu : d.size + 8 ≤ fu) : ∃ e : Array Int, dslices_breakPatternsOrdered_uint64 fu d.toList a b = some e.toList ∧ Sort.PermIn a b d e := by
  unfold capN at hd
  unfold dslices_breakPatternsOrdered_uint64
  rw [nW_sub (i := b) (j := a) (by omega) (by omega), show decide (((b - a : Nat) : Int) ≥ 8) = true from decide_eq_true (by omega), cond_true]
  have hw : IntKind.wrap .u64 ((b - a : Nat) : Int) = ((b - a : Nat) : Int) := wrap_u64 (by omega)
  obtain ⟨M, hm, hL, hLp⟩ := pow2_in (fu := fu) (n := b - a) (by omega) (by omega)
  rw [hm, Option.bind_some]
  have hq : quoV .i64 ((b - a : Nat) : Int) 4 = some (((b - a) / 4 : Nat) : Int) := quo_n (k := 4) (by omega) (by omega) (by omega)
  rw [hq]
  simp only [Option.bind_some]
  have hi0 : W (W ((a : Int) + W ((((b - a) / 4 : Nat) : Int) * 2)) - 1) = ((a + (b - a) / 4 * 2 - 1 : Nat) : Int) := by
    rw [show (2 : Int) = ((2 : Nat) : Int) from rfl, nW_mul (by omega), nW_add (by omega), nW_sub1 (by omega) (by omega)]
  have hi1 : W (W ((a : Int) + W ((((b - a) / 4 : Nat) : Int) * 2)) + 1) = ((a + (b - a) / 4 * 2 + 1 : Nat) : Int) := by
    rw [show (2 : Int) = ((2 : Nat) : Int) from rfl, nW_mul (by omega), nW_add (by omega), nW_add1 (by omega)]
  have hw2 : IntKind.wrap .u64 ((M : Int) - 1) = ((M - 1 : Nat) : Int) := by
    rw [show ((M : Int) - 1) = ((M - 1 : Nat) : Int) by omega]
    exact wrap_u64 (by omega)
  rw [hi0, hi1, hw, hw2]
  have hloop := loopD_tot (ε := Int × Int × List Int) (τ := List Int) (body := fun (((idx2, random1, data2)) : Int × Int × (List Int)) => (bif (decide (idx2 ≤ ((a + (b - a) / 4 * 2 + 1 : Nat) : Int))) then ((dslices_xorshift_Next fu random1).bind fun other1 => (some (W (bits .and .u64 other1.1 ((M - 1 : Nat) : Int)))).bind fun other2 => (bif (decide (other2 ≥ ((b - a : Nat) : Int))) then ((some (W (other2 - ((b - a : Nat) : Int)))).bind fun other4 => some other4) else some other2 : Option Int).bind fun (other3 : Int) => ((gi data2 (W ((a : Int) + other3))).bind fun x4 => (gi data2 idx2).bind fun x5 => (gi data2 idx2).bind fun x6 => (sti data2 idx2 x4).bind fun data4 => (gi data4 (W ((a : Int) + other3))).bind fun x7 => (sti data4 (W ((a : Int) + other3)) x5).bind fun data5 => some (Sum.inl (W (idx2 + 1), other1.2, data5)))) else some (Sum.inr data2)))
    (fun s => ∃ (i : Nat) (r : Int) (e : Array Int), s = ((i : Int), r, e.toList) ∧ a ≤ i ∧ i ≤ a + (b - a) / 4 * 2 + 2 ∧ Sort.PermIn a b d e) (fun s => (a + (b - a) / 4 * 2 + 2 - s.1.toNat)) (fun l => ∃ e : Array Int, l = e.toList ∧ Sort.PermIn a b d e) ?_ fu (((a + (b - a) / 4 * 2 - 1 : Nat) : Int), ((b - a : Nat) : Int), d.toList) ⟨_, _, d, rfl, by omega, by omega, Sort.permIn_refl d a b⟩ (by simp only [Int.toNat_natCast]; omega)
  · obtain ⟨l, hl, e, rfl, he⟩ := hloop
    exact ⟨e, (congrArg (fun o : Option (List Int) => o.bind fun l1 => some l1) hl : _), he⟩
  · rintro _ ⟨i, r, e, rfl, h1, h2, h3⟩
    dsimp only
    rw [dle]
    by_cases hc : i ≤ a + (b - a) / 4 * 2 + 1
    · rw [decide_eq_true hc, cond_true]
      unfold dslices_xorshift_Next
      simp only [Option.bind_some]
      generalize bits .xor .u64 (bits .xor .u64 (bits .xor .u64 r (shlV .u64 r 13)) (shrV .u64 (bits .xor .u64 r (shlV .u64 r 13)) 7)) (shlV .u64 (bits .xor .u64 (bits .xor .u64 r (shlV .u64 r 13)) (shrV .u64 (bits .xor .u64 r (shlV .u64 r 13)) 7)) 17) = r2
      obtain ⟨m, hm1, hm2⟩ := and_le r2 (show M - 1 < 18446744073709551616 by omega)
      rw [hm2, W_nat (by omega), dge]
      have hes : e.size = d.size := h3.1
      have key : ∀ o : Nat, o < b - a → ∃ oo, (((gi e.toList (W ((a : Int) + (o : Int)))).bind fun x4 => (gi e.toList (i : Int)).bind fun x5 => (gi e.toList (i : Int)).bind fun x6 => (sti e.toList (i : Int) x4).bind fun data4 => (gi data4 (W ((a : Int) + (o : Int)))).bind fun x7 => (sti data4 (W ((a : Int) + (o : Int))) x5).bind fun data5 => some (Sum.inl (W ((i : Int) + 1), r2, data5))) : Option ((Int × Int × List Int) ⊕ List Int)) = some oo ∧
          (∀ s', oo = .inl s' → (∃ (i : Nat) (r : Int) (e : Array Int), s' = ((i : Int), r, e.toList) ∧ a ≤ i ∧ i ≤ a + (b - a) / 4 * 2 + 2 ∧ Sort.PermIn a b d e) ∧ a + (b - a) / 4 * 2 + 2 - s'.1.toNat < a + (b - a) / 4 * 2 + 2 - ((i : Int)).toNat) ∧ ∀ l, oo = .inr l → ∃ e : Array Int, l = e.toList ∧ Sort.PermIn a b d e := by
        intro o ho
        rw [nW_add (i := a) (j := o) (by omega), swA e (by omega) (by omega), nW_add1 (by omega)]
        refine ⟨_, rfl, fun s' hs => ?_, fun l hl => by cases hl⟩
        cases hs
        exact ⟨⟨i + 1, r2, _, rfl, by omega, by omega, Sort.permIn_trans _ _ _ a b h3 (Sort.swp_permIn e a b i (a + o) h1 (by omega) (by omega) (by omega) (by omega))⟩, by simp only [Int.toNat_natCast]; omega⟩
      by_cases hg : m ≥ b - a
      · rw [decide_eq_true hg, cond_true, nW_sub (i := m) (j := b - a) (by omega) hg]
        exact key (m - (b - a)) (by omega)
      · rw [decide_eq_false hg, cond_false]
        exact key m (by omega)
    · rw [decide_eq_false hc, cond_false]
      exact ⟨_, rfl, fun s' hs => (by cases hs), fun l hl => (by cases hl; exact ⟨e, rfl, h3⟩)⟩

/-! ### the whole -/
theorem swoI : Sort.SWO Sort.ltInt := Sort.swo_ltInt
def Goes (fu N a b : Nat) : Prop := ∀ (limit : Int) (e : Array Int), e.size = N → Sort.Below Sort.ltInt a b e → ∃ e' : Array Int, dslices_pdqsortOrdered_uint64 fu e.toList a b limit = some e'.toList ∧ Sort.PermIn a b e e' ∧ Sort.SortedIn Sort.ltInt a b e'
def StepP (a b : Nat) (e : Array Int) (o : (Int × Int × Int × Bool × Bool × List Int) ⊕ List Int) : Prop :=
  (∃ e' : Array Int, o = .inr e'.toList ∧ Sort.PermIn a b e e' ∧ Sort.SortedIn Sort.ltInt a b e') ∨
  ∃ (a2 b2 : Nat) (l2 : Int) (w2 v2 : Bool) (e2 : Array Int), o = .inl ((a2 : Int), (b2 : Int), l2, w2, v2, e2.toList) ∧ a2 ≤ b2 ∧ b2 - a2 < b - a ∧ b2 ≤ b ∧ e2.size = e.size ∧ Sort.Below Sort.ltInt a2 b2 e2 ∧
    ∀ R, Sort.PermIn a2 b2 e2 R → Sort.SortedIn Sort.ltInt a2 b2 R → Sort.PermIn a b e R ∧ Sort.SortedIn Sort.ltInt a b R
theorem pdq_body (fu N : Nat) (hN : N ≤ capN) (hfu : N + 8 ≤ fu) : ∃ body, (∀ d a b limit, dslices_pdqsortOrdered_uint64 (fu + 1) d a b limit = loopD body fu (a, b, limit, true, true, d)) ∧
    ∀ (a b : Nat) (limit : Int) (wb wp : Bool) (e : Array Int), e.size = N → a ≤ b → b ≤ N → Sort.Below Sort.ltInt a b e → (∀ a' b', a ≤ a' → a' ≤ b' → b' ≤ b → b' - a' < b - a → Goes fu N a' b') → ∃ o, body ((a : Int), (b : Int), limit, wb, wp, e.toList) = some o ∧ StepP a b e o := by
  refine ⟨_, fun d a b limit => rfl, ?_⟩
  intro a b limit wb wp e he hab hbN hB hrec
  have hN' := hN
  unfold capN at hN
  dsimp only
  rw [nW_sub (i := b) (j := a) (by omega) hab]
  by_cases h12 : b - a ≤ 12
  · rw [show decide (((b - a : Nat) : Int) ≤ 12) = true from decide_eq_true (by omega), cond_true, insS_u64 hab (by omega) (by rw [he]; exact hN') (by omega)]
    have hs := Sort.insertionSort_holds (lt := Sort.ltInt) swoI e a b hab (by omega)
    exact ⟨_, rfl, .inl ⟨_, rfl, hs⟩⟩
  rw [show decide (((b - a : Nat) : Int) ≤ 12) = false from decide_eq_false (by omega), cond_false]
  cases hl : limit == 0 with
  | true =>
    rw [cond_true, heap_u64 hab (by omega) (by rw [he]; exact hN') (by omega)]
    have hs := Sort.heapSort_holds (lt := Sort.ltInt) swoI e a b hab (by omega)
    exact ⟨_, rfl, .inl ⟨_, rfl, hs⟩⟩
  | false =>
  rw [cond_false]
  obtain ⟨l1, e1, q1, P1⟩ : ∃ (l1 : Int) (e1 : Array Int), (bif (!wb) then ((dslices_breakPatternsOrdered_uint64 fu e.toList a b).bind fun x3 => some (W (limit - 1), x3)) else some (limit, e.toList) : Option (Int × List Int)) = some (l1, e1.toList) ∧ Sort.PermIn a b e e1 := by
    cases wb with
    | true => exact ⟨limit, e, rfl, Sort.permIn_refl e a b⟩
    | false =>
      obtain ⟨e1, h1, h2⟩ := break_u64 (fu := fu) (d := e) (a := a) (b := b) (by omega) (by omega) (by rw [he]; exact hN') (by omega)
      exact ⟨W (limit - 1), e1, by rw [h1]; rfl, h2⟩
  rw [q1]; simp only [Option.bind_some]
  have s1 : e1.size = N := by rw [P1.1, he]
  obtain ⟨p1, h1, r1, r2, q2⟩ := pivot_u64 (fu := fu) (d := e1) (a := a) (b := b) (by omega) (by omega) (by rw [s1]; exact hN')
  rw [q2]; simp only [Option.bind_some]
  obtain ⟨p2, h2, e2, q3, P2, r3, r4⟩ : ∃ (p2 : Nat) (h2 : Int) (e2 : Array Int), (bif (h1 == 2) then ((dslices_reverseRangeOrdered_uint64 fu e1.toList a b).bind fun x4 => some (W ((W ((b : Int) - 1)) - (W ((p1 : Int) - (a : Int)))), 1, x4)) else some ((p1 : Int), h1, e1.toList) : Option (Int × Int × List Int)) = some ((p2 : Int), h2, e2.toList) ∧ Sort.PermIn a b e1 e2 ∧ a ≤ p2 ∧ p2 < b := by
    cases h1 == 2 with
    | false => exact ⟨p1, h1, e1, rfl, Sort.permIn_refl e1 a b, r1, r2⟩
    | true =>
      rw [cond_true, rev_u64 (by omega) (by omega) (by rw [s1]; exact hN') (by omega), nW_sub1 (by omega) (by omega), nW_sub (i := p1) (j := a) (by omega) r1, nW_sub (by omega) (by omega)]
      exact ⟨b - 1 - (p1 - a), 1, _, rfl, Sort.reverseRange_holds e1 a b hab (by omega), by omega, by omega⟩
  rw [q3]; simp only [Option.bind_some]
  have s2 : e2.size = N := by rw [P2.1, s1]
  have PP : Sort.PermIn a b e e2 := Sort.permIn_trans _ _ _ a b P1 P2
  have B2 : Sort.Below Sort.ltInt a b e2 := hB.perm (by omega) PP
  obtain ⟨x5, q4⟩ : ∃ x5 : Bool, (bif wb then (bif wp then some (h2 == 1) else some false) else some false : Option Bool) = some x5 := by
    cases wb <;> cases wp <;> exact ⟨_, rfl⟩
  rw [q4]; simp only [Option.bind_some]
  obtain ⟨o2, e3, q5, P3, hh⟩ : ∃ (o2 : List Int ⊕ ((Int × Int × Int × Bool × Bool × List Int) ⊕ List Int)) (e3 : Array Int), (bif x5 then ((dslices_partialInsertionSortOrdered_uint64 fu e2.toList a b).bind fun x6 => bif x6.1 then some (Sum.inr (Sum.inr x6.2)) else some (Sum.inl x6.2)) else some (Sum.inl e2.toList) : Option (List Int ⊕ ((Int × Int × Int × Bool × Bool × List Int) ⊕ List Int))) = some o2 ∧ Sort.PermIn a b e2 e3 ∧ (o2 = .inl e3.toList ∨ o2 = .inr (.inr e3.toList) ∧ Sort.SortedIn Sort.ltInt a b e3) := by
    cases x5 with
    | false => exact ⟨_, e2, rfl, Sort.permIn_refl e2 a b, .inl rfl⟩
    | true =>
      rw [cond_true, pins_u64 (by omega) (by omega) (by rw [s2]; exact hN') (by omega)]
      have hp := Sort.partialInsertionSort_holds (lt := Sort.ltInt) swoI e2 a b (by omega) (by omega) B2
      simp only [Option.bind_some]
      cases hx : (Sort.partialInsertionSort Sort.ltInt e2 a b).2 with
      | true => exact ⟨_, _, rfl, hp.1, .inr ⟨rfl, hp.2 hx⟩⟩
      | false => exact ⟨_, _, rfl, hp.1, .inl rfl⟩
  rw [q5]; simp only [Option.bind_some]
  have s3 : e3.size = N := by rw [P3.1, s2]
  have PQ : Sort.PermIn a b e e3 := Sort.permIn_trans _ _ _ a b PP P3
  have B3 : Sort.Below Sort.ltInt a b e3 := B2.perm (by omega) P3
  rcases hh with rfl | ⟨rfl, hs⟩
  · simp only [kS]
    have q6 : (bif decide ((a : Int) > 0) then (gi e3.toList (W ((a : Int) - 1))).bind fun x8 => (gi e3.toList (p2 : Int)).bind fun x9 => (dcmp_Less_uint64 fu x8 x9).bind fun x10 => some (!x10) else some false : Option Bool) = some (decide (a > 0) && !Sort.ltInt e3[a - 1]! e3[p2]!) := by
      by_cases h0 : a > 0
      · rw [show decide ((a : Int) > 0) = true from decide_eq_true (by omega), cond_true, nW_sub1 (by omega) h0, gA e3 (show a - 1 < e3.size by omega), gA e3 (show p2 < e3.size by omega), decide_eq_true h0]
        simp only [Option.bind_some, less_u64, Bool.true_and]
      · rw [show decide ((a : Int) > 0) = false from decide_eq_false (by omega), decide_eq_false h0]; rfl
    rw [q6]; simp only [Option.bind_some]
    cases hc : (decide (a > 0) && !Sort.ltInt e3[a - 1]! e3[p2]!) with
    | true =>
      simp only [Bool.and_eq_true, decide_eq_true_eq, Bool.not_eq_true'] at hc
      rw [cond_true, partEq_u64 r3 r4 (by omega) (by rw [s3]; exact hN') (by omega)]
      cases hx : Sort.partitionEqual Sort.ltInt e3 a b p2 with
      | mk mid e4 =>
      obtain ⟨g1, g2, g3, g4, g5⟩ := Sort.round_eq (lt := Sort.ltInt) swoI (Sort.partitionEqual_holds _) hc.1 r3 r4 (by omega) B3 hc.2 hx
      refine ⟨_, rfl, .inr ⟨mid, b, _, _, _, e4, rfl, g2, by omega, Nat.le_refl _, by rw [g3, s3, he], g4, fun R h1 h2 => ?_⟩⟩
      obtain ⟨k1, k2⟩ := g5 R h1 h2
      exact ⟨Sort.permIn_trans _ _ _ a b PQ k1, k2⟩
    | false =>
      rw [cond_false, part_u64 r3 r4 (by omega) (by rw [s3]; exact hN') (by omega)]
      cases hx : Sort.partition Sort.ltInt e3 a b p2 with
      | mk mid r =>
      obtain ⟨ap, e4⟩ := r
      obtain ⟨g1, g2, g3, g4, g5, g6, g7⟩ := Sort.round_part (lt := Sort.ltInt) swoI (Sort.partition_holds _) r3 r4 (by omega) B3 hx
      have s4 : e4.size = N := by rw [g3, s3]
      simp only [Option.bind_some]
      rw [show (8 : Int) = ((8 : Nat) : Int) from rfl, quo_n (by omega) (by omega) (by omega)]
      simp only [Option.bind_some]
      rw [nW_sub (i := mid) (j := a) (by omega) g1, nW_sub (i := b) (j := mid) (by omega) (by omega), nW_add1 (i := mid) (by omega)]
      cases decide (((mid - a : Nat) : Int) < ((b - mid : Nat) : Int)) with
      | true =>
        rw [cond_true]
        obtain ⟨L, k1, k2, k3⟩ := hrec a mid (Nat.le_refl _) g1 (by omega) (by omega) l1 e4 s4 g4
        rw [k1]
        obtain ⟨k4, k5⟩ := g6 L k2 k3
        refine ⟨_, rfl, .inr ⟨mid + 1, b, _, _, _, L, rfl, by omega, by omega, Nat.le_refl _, by rw [k2.1, s4, he], k4, fun R h1 h2 => ?_⟩⟩
        obtain ⟨t1, t2⟩ := k5 R h1 h2
        exact ⟨Sort.permIn_trans _ _ _ a b PQ t1, t2⟩
      | false =>
        rw [cond_false]
        obtain ⟨L, k1, k2, k3⟩ := hrec (mid + 1) b (by omega) (by omega) (Nat.le_refl _) (by omega) l1 e4 s4 g5
        rw [k1]
        obtain ⟨k4, k5⟩ := g7 L k2 k3
        refine ⟨_, rfl, .inr ⟨a, mid, _, _, _, L, rfl, g1, by omega, by omega, by rw [k2.1, s4, he], k4, fun R h1 h2 => ?_⟩⟩
        obtain ⟨t1, t2⟩ := k5 R h1 h2
        exact ⟨Sort.permIn_trans _ _ _ a b PQ t1, t2⟩
  · exact ⟨_, rfl, .inl ⟨e3, rfl, PQ, hs⟩⟩
theorem pdq_u64 (N : Nat) (hN : N ≤ capN) : ∀ (m fu a b : Nat), b - a ≤ m → a ≤ b → b ≤ N → N + m + 10 ≤ fu → Goes fu N a b := by
  intro m
  induction m with
  | zero =>
    intro fu a b hm hab hbN hfu limit e he hB
    obtain ⟨fu, rfl⟩ : ∃ k, fu = k + 1 := ⟨fu - 1, by omega⟩
    obtain ⟨body, h1, h2⟩ := pdq_body fu N hN (by omega)
    obtain ⟨o, ho, hs⟩ := h2 a b limit true true e he hab hbN hB (fun a' b' _ _ _ h => by omega)
    obtain ⟨f, rfl⟩ : ∃ k, fu = k + 1 := ⟨fu - 1, by omega⟩
    rcases hs with ⟨e', rfl, h3⟩ | ⟨a2, b2, l2, w2, v2, e2, rfl, k1, k2, _⟩
    · exact ⟨e', by rw [h1, loopD_end ho], h3⟩
    · omega
  | succ m ih =>
    intro fu a b hm hab hbN hfu limit e he hB
    obtain ⟨fu, rfl⟩ : ∃ k, fu = k + 1 := ⟨fu - 1, by omega⟩
    obtain ⟨body, h1, h2⟩ := pdq_body fu N hN (by omega)
    have key : ∀ (k a b : Nat) (limit : Int) (wb wp : Bool) (e : Array Int) (n : Nat), b - a ≤ k → k ≤ m + 1 → e.size = N → a ≤ b → b ≤ N → Sort.Below Sort.ltInt a b e → k < n → ∃ e' : Array Int, loopD body n ((a : Int), (b : Int), limit, wb, wp, e.toList) = some e'.toList ∧ Sort.PermIn a b e e' ∧ Sort.SortedIn Sort.ltInt a b e' := by
      intro k
      induction k with
      | zero =>
        intro a b limit wb wp e n hk hkm he hab hbN hB hn
        obtain ⟨n, rfl⟩ : ∃ j, n = j + 1 := ⟨n - 1, by omega⟩
        obtain ⟨o, ho, hs⟩ := h2 a b limit wb wp e he hab hbN hB (fun a' b' _ _ _ h => by omega)
        rcases hs with ⟨e', rfl, h3⟩ | ⟨a2, b2, l2, w2, v2, e2, rfl, k1, k2, _⟩
        · exact ⟨e', by rw [loopD_end ho], h3⟩
        · omega
      | succ k ihk =>
        intro a b limit wb wp e n hk hkm he hab hbN hB hn
        obtain ⟨n, rfl⟩ : ∃ j, n = j + 1 := ⟨n - 1, by omega⟩
        obtain ⟨o, ho, hs⟩ := h2 a b limit wb wp e he hab hbN hB (fun a' b' h3 h4 h5 h6 => ih fu a' b' (by omega) h4 (by omega) (by omega))
        rcases hs with ⟨e', rfl, h3⟩ | ⟨a2, b2, l2, w2, v2, e2, rfl, k1, k2, k3, k4, k5, k6⟩
        · exact ⟨e', by rw [loopD_end ho], h3⟩
        · obtain ⟨e', t1, t2, t3⟩ := ihk a2 b2 l2 w2 v2 e2 n (by omega) (by omega) (by rw [k4, he]) k1 (by omega) k5 (by omega)
          exact ⟨e', by rw [loopD_go ho]; exact t1, k6 e' t2 t3⟩
    rw [h1]
    exact key (m + 1) a b limit true true e fu hm (Nat.le_refl _) he hab hbN hB (by omega)
/-- It sorts. -/
theorem sort_u64 {fu : Nat} {l : List Int} (hl : l.length ≤ capN) (hfu : 2 * l.length + 20 ≤ fu) : dslices_Sort_uint64 fu l = some (l.mergeSort (fun x y => decide (x ≤ y))) := by
  have hl' := hl
  unfold capN at hl
  unfold dslices_Sort_uint64
  simp only [Option.bind_some]
  have hw : IntKind.wrap .u64 (l.length : Int) = (l.length : Int) := wrap_u64 (by omega)
  rw [hw, len_u64 (by omega)]
  simp only [Option.bind_some]
  obtain ⟨e', h1, h2, h3⟩ := pdq_u64 l.length hl' l.length fu 0 l.length (by omega) (by omega) (Nat.le_refl _) (by omega) ((Sort.bitsLen l.length : Nat) : Int) l.toArray (by simp) (.inl rfl)
  have h1' : dslices_pdqsortOrdered_uint64 fu l 0 (l.length : Int) ((Sort.bitsLen l.length : Nat) : Int) = some e'.toList := by simpa using h1
  rw [h1']
  simp only [Option.bind_some]
  have hu := Sort.sorted_unique_holds (lt := Sort.ltInt) swoI (fun x y h1 h2 => by simp [Sort.ltInt] at h1 h2; omega) l.toArray e' (by simpa using h2) (by simpa using h3)
  rw [hu]
  have : (fun x y => !Sort.ltInt y x) = fun (x y : Int) => decide (x ≤ y) := by
    funext x y
    unfold Sort.ltInt
    rw [Bool.eq_iff_iff]; simp
  rw [this]
end Go.Proofs.Ytngeejjllgnpcaa
