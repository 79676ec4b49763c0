/- Sorting, as the library's own texts do it: their loops over lists that are written into, each with any body that does what the text says, against the kit's plain words. -/
import Derived.Test.YtngeejjllgnpcaaPwE
import Derived.Sort.LotA
import Derived.Sort.LotB
import Derived.Sort.LotC
import Derived.Sort.LotD3
namespace Go.Pv
set_option linter.unusedSectionVars false
set_option linter.unusedVariables false
set_option linter.unusedSimpArgs false
section
variable {α : Type} [Inhabited α] {lt : α → α → Bool}

theorem gA (d : Array α) {i : Nat} (h : i < d.size) : gi d.toList (i : Int) = some d[i]! := by
  rw [gi_nat]; simp [h]
theorem sA (d : Array α) {i : Nat} (h : i < d.size) (v : α) : sti d.toList (i : Int) v = some (d.setIfInBounds i v).toList := by
  unfold sti; rw [if_pos ⟨by omega, by simp; omega⟩]
  simp [Array.setIfInBounds, h]
theorem swA {β : Type} (d : Array α) {i j : Nat} (hi : i < d.size) (hj : j < d.size) (k : List α → Option β) :
    ((gi d.toList (j : Int)).bind fun x => (gi d.toList (i : Int)).bind fun y => (gi d.toList (i : Int)).bind fun _ => (sti d.toList (i : Int) x).bind fun L => (gi L (j : Int)).bind fun _ => (sti L (j : Int) y).bind k) = k (Sort.swp d i j).toList := by
  rw [gA d hj, Option.bind_some, gA d hi, Option.bind_some, Option.bind_some, sA d hi, Option.bind_some, gA _ (by simpa using hj), Option.bind_some, sA _ (by simpa using hj), Option.bind_some]
  rfl
theorem size_swp (d : Array α) (i j : Nat) : (Sort.swp d i j).size = d.size := Sort.size_swp d i j
theorem W_pre {i : Nat} (h : i < 9223372036854775808) : W (((i + 1 : Nat) : Int) - 1) = (i : Int) := by
  rw [← W_nat h]; congr 1; omega
theorem nW_sub {i j : Nat} (h : i < 9223372036854775808) (hj : j ≤ i) : W ((i : Int) - (j : Int)) = ((i - j : Nat) : Int) := by
  rw [← W_nat (i := i - j) (by omega)]; congr 1; omega
theorem nW_add {i j : Nat} (h : i + j < 9223372036854775808) : W ((i : Int) + (j : Int)) = ((i + j : Nat) : Int) := by
  rw [← W_nat h]; congr 1
theorem nW_sub1 {i : Nat} (h : i < 9223372036854775808) (hj : 1 ≤ i) : W ((i : Int) - 1) = ((i - 1 : Nat) : Int) := nW_sub (j := 1) h hj
theorem nW_add1 {i : Nat} (h : i + 1 < 9223372036854775808) : W ((i : Int) + 1) = ((i + 1 : Nat) : Int) := nW_add (j := 1) h

/-! ### insertion -/
theorem size_insInner (a : Nat) : ∀ (j : Nat) (d : Array α), (Sort.insInner lt a j d).size = d.size
  | 0, d => rfl
  | j + 1, d => by
    unfold Sort.insInner
    split
    · rw [size_insInner a j, size_swp]
    · rfl
def InsB (lt : α → α → Bool) (a : Nat) (N : Nat) (body : Int × List α → Option ((Int × List α) ⊕ List α)) : Prop :=
  (∀ d : Array α, d.size = N → 0 < N → body (((0 : Nat) : Int), d.toList) = some (.inr d.toList)) ∧
  ∀ (j : Nat) (d : Array α), d.size = N → j + 1 < N → body (((j + 1 : Nat) : Int), d.toList) = some (if (decide (j + 1 > a) && lt d[j + 1]! d[j]!) = true then .inl ((j : Int), (Sort.swp d (j + 1) j).toList) else .inr d.toList)
theorem ins_in {a N : Nat} {body : Int × List α → Option ((Int × List α) ⊕ List α)} (hb : InsB lt a N body) : ∀ (j : Nat) (d : Array α) (n : Nat), d.size = N → j < N → j < n → loopD body n ((j : Int), d.toList) = some (Sort.insInner lt a j d).toList
  | 0, d, n, hd, hj, hn => by
    obtain ⟨n, rfl⟩ : ∃ k, n = k + 1 := ⟨n - 1, by omega⟩
    rw [loopD_end (hb.1 d hd hj)]; rfl
  | j + 1, d, n, hd, hj, hn => by
    obtain ⟨n, rfl⟩ : ∃ k, n = k + 1 := ⟨n - 1, by omega⟩
    have h := hb.2 j d hd hj
    unfold Sort.insInner
    by_cases hc : (decide (j + 1 > a) && lt d[j + 1]! d[j]!) = true
    · rw [if_pos hc] at h
      rw [loopD_go h, if_pos hc]
      exact ins_in hb j _ n (by rw [size_swp]; exact hd) (by omega) (by omega)
    · rw [if_neg hc] at h
      rw [loopD_end h, if_neg hc]
theorem ins_out {a b N : Nat} {body : Int × List α → Option ((Int × List α) ⊕ List α)} (hb : ∀ (i : Nat) (d : Array α), d.size = N → body ((i : Int), d.toList) = some (if i < b then .inl (((i + 1 : Nat) : Int), (Sort.insInner lt a i d).toList) else .inr d.toList)) :
    ∀ (m i : Nat) (d : Array α) (n : Nat), b - i ≤ m → d.size = N → b - i < n → loopD body n ((i : Int), d.toList) = some (Sort.insOuter lt a b i d).toList := by
  intro m
  induction m with
  | zero =>
    intro i d n hm hd hn
    obtain ⟨n, rfl⟩ : ∃ k, n = k + 1 := ⟨n - 1, by omega⟩
    have h := hb i d hd
    rw [if_neg (by omega)] at h
    rw [loopD_end h, Sort.insOuter, if_neg (by omega)]
  | succ m ih =>
    intro i d n hm hd hn
    obtain ⟨n, rfl⟩ : ∃ k, n = k + 1 := ⟨n - 1, by omega⟩
    have h := hb i d hd
    rw [Sort.insOuter]
    by_cases hc : i < b
    · rw [if_pos hc] at h
      rw [loopD_go h, if_pos hc]
      exact ih (i + 1) _ n (by omega) (by rw [size_insInner]; exact hd) (by omega)
    · rw [if_neg hc] at h
      rw [loopD_end h, if_neg hc]

/-! ### the heap -/
theorem size_siftDown (hi first : Nat) : ∀ (m root : Nat) (d : Array α), hi - root ≤ m → (Sort.siftDown lt hi first root d).size = d.size := by
  intro m
  induction m with
  | zero => intro root d h; rw [Sort.siftDown, dif_pos (by omega)]
  | succ m ih =>
    intro root d h
    rw [Sort.siftDown]
    split
    · rfl
    · split
      · split
        · rfl
        · split
          · rw [ih _ _ (by omega), size_swp]
          · rfl
      · split
        · rfl
        · rw [ih _ _ (by omega), size_swp]
theorem size_sift (hi first root : Nat) (d : Array α) : (Sort.siftDown lt hi first root d).size = d.size := size_siftDown hi first _ root d (Nat.le_refl _)
/-- One round of 'siftDown'. -/
def siftB (lt : α → α → Bool) (hi first root : Nat) (d : Array α) : (Nat × Array α) ⊕ Array α :=
  if 2 * root + 1 ≥ hi then .inr d else
    let c := if (decide (2 * root + 1 + 1 < hi) && lt d[first + (2 * root + 1)]! d[first + (2 * root + 1) + 1]!) = true then 2 * root + 2 else 2 * root + 1
    if (!lt d[first + root]! d[first + c]!) = true then .inr d else .inl (c, Sort.swp d (first + root) (first + c))
theorem sift_step (hi first root : Nat) (d : Array α) : Sort.siftDown lt hi first root d = match siftB lt hi first root d with | .inr e => e | .inl (c, e) => Sort.siftDown lt hi first c e := by
  rw [Sort.siftDown]
  unfold siftB
  by_cases h : 2 * root + 1 ≥ hi
  · rw [dif_pos h, if_pos h]
  · rw [dif_neg h, if_neg h]
    by_cases h2 : (decide (2 * root + 1 + 1 < hi) && lt d[first + (2 * root + 1)]! d[first + (2 * root + 1) + 1]!) = true
    · rw [if_pos h2, if_pos h2]
      by_cases h3 : (!lt d[first + root]! d[first + (2 * root + 2)]!) = true
      · rw [if_pos h3, if_pos h3]
      · rw [if_neg h3, if_neg h3, dif_pos (by simp at h2; omega)]
    · rw [if_neg h2, if_neg h2]
      by_cases h3 : (!lt d[first + root]! d[first + (2 * root + 1)]!) = true
      · rw [if_pos h3, if_pos h3]
      · rw [if_neg h3, if_neg h3]
def siftO (s : List α → List α ⊕ List α) : (Nat × Array α) ⊕ Array α → (Int × List α) ⊕ (List α ⊕ List α)
  | .inr e => .inr (s e.toList)
  | .inl (c, e) => .inl ((c : Int), e.toList)
theorem siftB_in {hi first root c : Nat} {d x : Array α} (e : siftB lt hi first root d = .inl (c, x)) : root < c ∧ c < hi ∧ x.size = d.size := by
  unfold siftB at e
  by_cases h : 2 * root + 1 ≥ hi
  · rw [if_pos h] at e; cases e
  · rw [if_neg h] at e
    simp only at e
    by_cases h2 : (decide (2 * root + 1 + 1 < hi) && lt d[first + (2 * root + 1)]! d[first + (2 * root + 1) + 1]!) = true
    · rw [if_pos h2] at e
      simp only [Bool.and_eq_true, decide_eq_true_eq] at h2
      by_cases h3 : (!lt d[first + root]! d[first + (2 * root + 2)]!) = true
      · rw [if_pos h3] at e; cases e
      · rw [if_neg h3] at e
        simp only [Sum.inl.injEq, Prod.mk.injEq] at e
        obtain ⟨e1, e2⟩ := e
        exact ⟨by omega, by omega, by rw [← e2, size_swp]⟩
    · rw [if_neg h2] at e
      by_cases h3 : (!lt d[first + root]! d[first + (2 * root + 1)]!) = true
      · rw [if_pos h3] at e; cases e
      · rw [if_neg h3] at e
        simp only [Sum.inl.injEq, Prod.mk.injEq] at e
        obtain ⟨e1, e2⟩ := e
        exact ⟨by omega, by omega, by rw [← e2, size_swp]⟩
theorem sift_l {hi first N : Nat} {body : Int × List α → Option ((Int × List α) ⊕ (List α ⊕ List α))}
    (hb : ∀ (root : Nat) (d : Array α), d.size = N → root ≤ hi → ∃ s : List α → List α ⊕ List α, (∀ l, s l = .inl l ∨ s l = .inr l) ∧ body ((root : Int), d.toList) = some (siftO s (siftB lt hi first root d))) :
    ∀ (m root : Nat) (d : Array α) (n : Nat), hi - root ≤ m → d.size = N → root ≤ hi → hi - root < n → ∃ o, loopD body n ((root : Int), d.toList) = some o ∧ (o = .inl (Sort.siftDown lt hi first root d).toList ∨ o = .inr (Sort.siftDown lt hi first root d).toList) := by
  intro m
  induction m with
  | zero =>
    intro root d n hm hd hr hn
    obtain ⟨n, rfl⟩ : ∃ k, n = k + 1 := ⟨n - 1, by omega⟩
    obtain ⟨s, hs, h⟩ := hb root d hd hr
    have e : siftB lt hi first root d = .inr d := by unfold siftB; rw [if_pos (by omega)]
    rw [e] at h
    rw [loopD_end h, sift_step, e]
    exact ⟨_, rfl, hs _⟩
  | succ m ih =>
    intro root d n hm hd hr hn
    obtain ⟨n, rfl⟩ : ∃ k, n = k + 1 := ⟨n - 1, by omega⟩
    obtain ⟨s, hs, h⟩ := hb root d hd hr
    rw [sift_step]
    cases e : siftB lt hi first root d with
    | inr x =>
      rw [e] at h
      rw [loopD_end h]
      exact ⟨_, rfl, hs _⟩
    | inl x =>
      obtain ⟨c, x⟩ := x
      rw [e] at h
      rw [loopD_go h]
      obtain ⟨h1, h2, h3⟩ := siftB_in e
      exact ih c x n (by omega) (by rw [h3]; exact hd) (by omega) (by omega)
theorem sift_lb {hi first N : Nat} {body : Int × List α → Option ((Int × List α) ⊕ (List α ⊕ List α))} {f : List α ⊕ List α → Option (List α)} (hf : ∀ l, f (.inl l) = some l ∧ f (.inr l) = some l)
    (hb : ∀ (root : Nat) (d : Array α), d.size = N → root ≤ hi → ∃ s : List α → List α ⊕ List α, (∀ l, s l = .inl l ∨ s l = .inr l) ∧ body ((root : Int), d.toList) = some (siftO s (siftB lt hi first root d)))
    (root : Nat) (d : Array α) (n : Nat) (hd : d.size = N) (hr : root ≤ hi) (hn : hi - root < n) : (loopD body n ((root : Int), d.toList)).bind f = some (Sort.siftDown lt hi first root d).toList := by
  obtain ⟨o, ho, hc⟩ := sift_l hb _ root d n (Nat.le_refl _) hd hr hn
  rw [ho]
  rcases hc with rfl | rfl
  · exact (hf _).1
  · exact (hf _).2
theorem hb_l {hi first N : Nat} {body : Int × List α → Option ((Int × List α) ⊕ List α)} (hb0 : ∀ d : Array α, d.size = N → body ((-1 : Int), d.toList) = some (.inr d.toList))
    (hb : ∀ (k : Nat) (d : Array α), d.size = N → k ≤ hi → body ((k : Int), d.toList) = some (.inl ((k : Int) - 1, (Sort.siftDown lt hi first k d).toList))) :
    ∀ (k : Nat) (d : Array α) (n : Nat), d.size = N → k ≤ hi + 1 → k < n → loopD body n ((k : Int) - 1, d.toList) = some (Sort.heapBuild lt hi first k d).toList
  | 0, d, n, hd, hk, hn => by
    obtain ⟨n, rfl⟩ : ∃ k, n = k + 1 := ⟨n - 1, by omega⟩
    show loopD body (n + 1) ((-1 : Int), d.toList) = _
    rw [loopD_end (hb0 d hd)]; rfl
  | k + 1, d, n, hd, hk, hn => by
    obtain ⟨n, rfl⟩ : ∃ k, n = k + 1 := ⟨n - 1, by omega⟩
    have := hb k d hd (by omega)
    rw [show (((k + 1 : Nat) : Int) - 1) = (k : Int) by omega, loopD_go this]
    exact hb_l hb0 hb k _ n (by rw [size_sift]; exact hd) (by omega) (by omega)
theorem hp_l {first N M : Nat} {body : Int × List α → Option ((Int × List α) ⊕ List α)} (hb0 : ∀ d : Array α, d.size = N → body ((-1 : Int), d.toList) = some (.inr d.toList))
    (hb : ∀ (k : Nat) (d : Array α), d.size = N → k < M → body ((k : Int), d.toList) = some (.inl ((k : Int) - 1, (Sort.siftDown lt k first 0 (Sort.swp d first (first + k))).toList))) :
    ∀ (k : Nat) (d : Array α) (n : Nat), d.size = N → k ≤ M → k < n → loopD body n ((k : Int) - 1, d.toList) = some (Sort.heapPop lt first k d).toList
  | 0, d, n, hd, hk, hn => by
    obtain ⟨n, rfl⟩ : ∃ k, n = k + 1 := ⟨n - 1, by omega⟩
    show loopD body (n + 1) ((-1 : Int), d.toList) = _
    rw [loopD_end (hb0 d hd)]; rfl
  | k + 1, d, n, hd, hk, hn => by
    obtain ⟨n, rfl⟩ : ∃ k, n = k + 1 := ⟨n - 1, by omega⟩
    have := hb k d hd (by omega)
    rw [show (((k + 1 : Nat) : Int) - 1) = (k : Int) by omega, loopD_go this]
    exact hp_l hb0 hb k _ n (by rw [size_sift, size_swp]; exact hd) (by omega) (by omega)
theorem size_heapBuild (hi first : Nat) : ∀ (k : Nat) (d : Array α), (Sort.heapBuild lt hi first k d).size = d.size
  | 0, d => rfl
  | k + 1, d => by rw [Sort.heapBuild, size_heapBuild hi first k, size_sift]

/-! ### scans -/
theorem scanUp_l {p : α → Bool} {d : Array α} {j B : Nat} {body : Int → Option (Int ⊕ Int)} (h : ∀ i : Nat, i ≤ B → body (i : Int) = some (if (decide (i ≤ j) && p d[i]!) = true then .inl ((i + 1 : Nat) : Int) else .inr (i : Int))) (hB : j + 1 ≤ B) :
    ∀ (m i : Nat) (n : Nat), j + 1 - i ≤ m → i ≤ B → j + 1 - i < n → loopD body n (i : Int) = some ((Sort.scanUp p d j i : Nat) : Int) := by
  intro m
  induction m with
  | zero =>
    intro i n hm hi hn
    obtain ⟨n, rfl⟩ : ∃ k, n = k + 1 := ⟨n - 1, by omega⟩
    have := h i hi
    have hc : ¬ (decide (i ≤ j) && p d[i]!) = true := by simp; omega
    rw [if_neg hc] at this
    rw [loopD_end this, Sort.scanUp, if_neg hc]
  | succ m ih =>
    intro i n hm hi hn
    obtain ⟨n, rfl⟩ : ∃ k, n = k + 1 := ⟨n - 1, by omega⟩
    have := h i hi
    rw [Sort.scanUp]
    by_cases hc : (decide (i ≤ j) && p d[i]!) = true
    · rw [if_pos hc] at this
      rw [loopD_go this, if_pos hc]
      have : i ≤ j := by simp at hc; exact hc.1
      exact ih (i + 1) n (by omega) (by omega) (by omega)
    · rw [if_neg hc] at this
      rw [loopD_end this, if_neg hc]
theorem scanDown_l {p : α → Bool} {d : Array α} {i B : Nat} {body : Int → Option (Int ⊕ Int)} (h0 : body ((0 : Nat) : Int) = some (.inr ((0 : Nat) : Int))) (h : ∀ j : Nat, j + 1 ≤ B → body ((j + 1 : Nat) : Int) = some (if (decide (i ≤ j + 1) && p d[j + 1]!) = true then .inl (j : Int) else .inr ((j + 1 : Nat) : Int))) :
    ∀ (j n : Nat), j ≤ B → j < n → loopD body n (j : Int) = some ((Sort.scanDown p d i j : Nat) : Int)
  | 0, n, hj, hn => by
    obtain ⟨n, rfl⟩ : ∃ k, n = k + 1 := ⟨n - 1, by omega⟩
    rw [loopD_end h0]; rfl
  | j + 1, n, hj, hn => by
    obtain ⟨n, rfl⟩ : ∃ k, n = k + 1 := ⟨n - 1, by omega⟩
    have := h j hj
    unfold Sort.scanDown
    by_cases hc : (decide (i ≤ j + 1) && p d[j + 1]!) = true
    · rw [if_pos hc] at this
      rw [loopD_go this, if_pos hc]
      exact scanDown_l h0 h j n (by omega) (by omega)
    · rw [if_neg hc] at this
      rw [loopD_end this, if_neg hc]
theorem rev_l {N : Nat} {body : Int × Int × List α → Option ((Int × Int × List α) ⊕ List α)} (hb : ∀ (i j : Nat) (d : Array α), d.size = N → j < N → body ((i : Int), (j : Int), d.toList) = some (if i < j then .inl (((i + 1 : Nat) : Int), ((j - 1 : Nat) : Int), (Sort.swp d i j).toList) else .inr d.toList)) :
    ∀ (m i j : Nat) (d : Array α) (n : Nat), j - i ≤ m → d.size = N → j < N → j - i < n → loopD body n ((i : Int), (j : Int), d.toList) = some (Sort.reverseLoop i j d).toList := by
  intro m
  induction m with
  | zero =>
    intro i j d n hm hd hj hn
    obtain ⟨n, rfl⟩ : ∃ k, n = k + 1 := ⟨n - 1, by omega⟩
    have := hb i j d hd hj
    rw [if_neg (by omega)] at this
    rw [loopD_end this, Sort.reverseLoop, if_neg (by omega)]
  | succ m ih =>
    intro i j d n hm hd hj hn
    obtain ⟨n, rfl⟩ : ∃ k, n = k + 1 := ⟨n - 1, by omega⟩
    have := hb i j d hd hj
    rw [Sort.reverseLoop]
    by_cases hc : i < j
    · rw [if_pos hc] at this
      rw [loopD_go this, if_pos hc]
      exact ih (i + 1) (j - 1) _ n (by omega) (by rw [size_swp]; exact hd) (by omega) (by omega)
    · rw [if_neg hc] at this
      rw [loopD_end this, if_neg hc]

/-! ### partitions -/
theorem part_l {a N : Nat} {body : Int × Int × List α → Option ((Int × Int × List α) ⊕ (Int × List α))}
    (hb : ∀ (i j : Nat) (d : Array α), d.size = N → 1 ≤ i → i ≤ N → j < N → body ((i : Int), (j : Int), d.toList) = some (
      let i2 := Sort.scanUp (fun x => lt x d[a]!) d j i
      let j2 := Sort.scanDown (fun x => !lt x d[a]!) d i2 j
      if i2 > j2 then .inr ((j2 : Int), d.toList) else .inl (((i2 + 1 : Nat) : Int), ((j2 - 1 : Nat) : Int), (Sort.swp d i2 j2).toList))) :
    ∀ (m i j : Nat) (d : Array α) (n : Nat), j + 1 - i ≤ m → d.size = N → 1 ≤ i → i ≤ N → j < N → j + 1 - i < n →
      loopD body n ((i : Int), (j : Int), d.toList) = some (((Sort.partLoop lt a i j d).1 : Int), (Sort.partLoop lt a i j d).2.toList) := by
  intro m
  induction m with
  | zero =>
    intro i j d n hm hd hi hiN hj hn
    obtain ⟨n, rfl⟩ : ∃ k, n = k + 1 := ⟨n - 1, by omega⟩
    have h := hb i j d hd hi hiN hj
    rw [Sort.partLoop_eq]
    simp only at h ⊢
    have h1 := Sort.scanUp_ge (fun x => lt x d[a]!) d j i
    have h2 := Sort.scanDown_le (fun x => !lt x d[a]!) d (Sort.scanUp (fun x => lt x d[a]!) d j i) j
    rw [if_pos (by omega)] at h
    rw [loopD_end h, if_pos (by omega)]
  | succ m ih =>
    intro i j d n hm hd hi hiN hj hn
    obtain ⟨n, rfl⟩ : ∃ k, n = k + 1 := ⟨n - 1, by omega⟩
    have h := hb i j d hd hi hiN hj
    rw [Sort.partLoop_eq]
    simp only at h ⊢
    have h1 := Sort.scanUp_ge (fun x => lt x d[a]!) d j i
    have h2 := Sort.scanDown_le (fun x => !lt x d[a]!) d (Sort.scanUp (fun x => lt x d[a]!) d j i) j
    by_cases hc : Sort.scanUp (fun x => lt x d[a]!) d j i > Sort.scanDown (fun x => !lt x d[a]!) d (Sort.scanUp (fun x => lt x d[a]!) d j i) j
    · rw [if_pos hc] at h
      rw [loopD_end h, if_pos hc]
    · rw [if_neg hc] at h
      rw [loopD_go h, if_neg hc]
      exact ih _ _ _ n (by omega) (by rw [size_swp]; exact hd) (by omega) (by omega) (by omega) (by omega)
theorem partEq_l {a N : Nat} {body : Int × Int × List α → Option ((Int × Int × List α) ⊕ (Int × List α))}
    (hb : ∀ (i j : Nat) (d : Array α), d.size = N → 1 ≤ i → i ≤ N → j < N → body ((i : Int), (j : Int), d.toList) = some (
      let i2 := Sort.scanUp (fun x => !lt d[a]! x) d j i
      let j2 := Sort.scanDown (fun x => lt d[a]! x) d i2 j
      if i2 > j2 then .inr ((i2 : Int), d.toList) else .inl (((i2 + 1 : Nat) : Int), ((j2 - 1 : Nat) : Int), (Sort.swp d i2 j2).toList))) :
    ∀ (m i j : Nat) (d : Array α) (n : Nat), j + 1 - i ≤ m → d.size = N → 1 ≤ i → i ≤ N → j < N → j + 1 - i < n →
      loopD body n ((i : Int), (j : Int), d.toList) = some (((Sort.partEqLoop lt a i j d).1 : Int), (Sort.partEqLoop lt a i j d).2.toList) := by
  intro m
  induction m with
  | zero =>
    intro i j d n hm hd hi hiN hj hn
    obtain ⟨n, rfl⟩ : ∃ k, n = k + 1 := ⟨n - 1, by omega⟩
    have h := hb i j d hd hi hiN hj
    rw [Sort.partEqLoop_eq]
    simp only at h ⊢
    have h1 := Sort.scanUp_ge (fun x => !lt d[a]! x) d j i
    have h2 := Sort.scanDown_le (fun x => lt d[a]! x) d (Sort.scanUp (fun x => !lt d[a]! x) d j i) j
    rw [if_pos (by omega)] at h
    rw [loopD_end h, if_pos (by omega)]
  | succ m ih =>
    intro i j d n hm hd hi hiN hj hn
    obtain ⟨n, rfl⟩ : ∃ k, n = k + 1 := ⟨n - 1, by omega⟩
    have h := hb i j d hd hi hiN hj
    rw [Sort.partEqLoop_eq]
    simp only at h ⊢
    have h1 := Sort.scanUp_ge (fun x => !lt d[a]! x) d j i
    have h2 := Sort.scanDown_le (fun x => lt d[a]! x) d (Sort.scanUp (fun x => !lt d[a]! x) d j i) j
    by_cases hc : Sort.scanUp (fun x => !lt d[a]! x) d j i > Sort.scanDown (fun x => lt d[a]! x) d (Sort.scanUp (fun x => !lt d[a]! x) d j i) j
    · rw [if_pos hc] at h
      rw [loopD_end h, if_pos hc]
    · rw [if_neg hc] at h
      rw [loopD_go h, if_neg hc]
      exact ih _ _ _ n (by omega) (by rw [size_swp]; exact hd) (by omega) (by omega) (by omega) (by omega)

theorem in_partLoop (a : Nat) : ∀ (m i j : Nat) (d : Array α), j + 1 - i ≤ m → (Sort.partLoop lt a i j d).2.size = d.size ∧ (Sort.partLoop lt a i j d).1 ≤ j := by
  intro m
  induction m with
  | zero =>
    intro i j d hm
    rw [Sort.partLoop_eq]
    have h1 := Sort.scanUp_ge (fun x => lt x d[a]!) d j i
    have h2 := Sort.scanDown_le (fun x => !lt x d[a]!) d (Sort.scanUp (fun x => lt x d[a]!) d j i) j
    by_cases hc : Sort.scanUp (fun x => lt x d[a]!) d j i > Sort.scanDown (fun x => !lt x d[a]!) d (Sort.scanUp (fun x => lt x d[a]!) d j i) j
    · rw [if_pos hc]; exact ⟨rfl, h2⟩
    · exfalso; have := hc; omega
  | succ m ih =>
    intro i j d hm
    rw [Sort.partLoop_eq]
    have h1 := Sort.scanUp_ge (fun x => lt x d[a]!) d j i
    have h2 := Sort.scanDown_le (fun x => !lt x d[a]!) d (Sort.scanUp (fun x => lt x d[a]!) d j i) j
    by_cases hc : Sort.scanUp (fun x => lt x d[a]!) d j i > Sort.scanDown (fun x => !lt x d[a]!) d (Sort.scanUp (fun x => lt x d[a]!) d j i) j
    · rw [if_pos hc]; exact ⟨rfl, h2⟩
    · rw [if_neg hc]
      have := ih _ (Sort.scanDown (fun x => !lt x d[a]!) d (Sort.scanUp (fun x => lt x d[a]!) d j i) j - 1) (Sort.swp d (Sort.scanUp (fun x => lt x d[a]!) d j i) (Sort.scanDown (fun x => !lt x d[a]!) d (Sort.scanUp (fun x => lt x d[a]!) d j i) j)) (show _ - 1 + 1 - (Sort.scanUp (fun x => lt x d[a]!) d j i + 1) ≤ m by omega)
      rw [size_swp] at this
      exact ⟨this.1, by omega⟩

/-! ### a few insertions -/
theorem scanS_l {d : Array α} {b : Nat} {body : Int → Option (Int ⊕ Int)} (h : ∀ i : Nat, 1 ≤ i → i ≤ b → body (i : Int) = some (if (decide (i < b) && !lt d[i]! d[i - 1]!) = true then .inl ((i + 1 : Nat) : Int) else .inr (i : Int))) :
    ∀ (m i n : Nat), b - i ≤ m → 1 ≤ i → i ≤ b → b - i < n → loopD body n (i : Int) = some ((Sort.scanSorted lt d b i : Nat) : Int) := by
  intro m
  induction m with
  | zero =>
    intro i n hm h1 hi hn
    obtain ⟨n, rfl⟩ : ∃ k, n = k + 1 := ⟨n - 1, by omega⟩
    have := h i h1 hi
    have hc : ¬ (decide (i < b) && !lt d[i]! d[i - 1]!) = true := by simp; omega
    rw [if_neg hc] at this
    rw [loopD_end this, Sort.scanSorted, if_neg hc]
  | succ m ih =>
    intro i n hm h1 hi hn
    obtain ⟨n, rfl⟩ : ∃ k, n = k + 1 := ⟨n - 1, by omega⟩
    have := h i h1 hi
    rw [Sort.scanSorted]
    by_cases hc : (decide (i < b) && !lt d[i]! d[i - 1]!) = true
    · rw [if_pos hc] at this
      rw [loopD_go this, if_pos hc]
      have : i < b := by simp at hc; exact hc.1
      exact ih (i + 1) n (by omega) (by omega) (by omega) (by omega)
    · rw [if_neg hc] at this
      rw [loopD_end this, if_neg hc]
theorem scanS_in (d : Array α) (b : Nat) : ∀ (m i : Nat), b - i ≤ m → i ≤ b → i ≤ Sort.scanSorted lt d b i ∧ Sort.scanSorted lt d b i ≤ b := by
  intro m
  induction m with
  | zero => intro i hm hi; rw [Sort.scanSorted, if_neg (by simp; omega)]; omega
  | succ m ih =>
    intro i hm hi
    rw [Sort.scanSorted]
    split
    · rename_i hc
      have : i < b := by simp at hc; exact hc.1
      have := ih (i + 1) (by omega) (by omega)
      omega
    · omega
theorem size_shiftDown : ∀ (j : Nat) (d : Array α), (Sort.shiftDown lt j d).size = d.size
  | 0, d => rfl
  | j + 1, d => by
    unfold Sort.shiftDown
    split
    · rfl
    · rw [size_shiftDown j, size_swp]
theorem size_shiftUp (b : Nat) : ∀ (m j : Nat) (d : Array α), b - j ≤ m → (Sort.shiftUp lt b j d).size = d.size := by
  intro m
  induction m with
  | zero => intro j d h; rw [Sort.shiftUp, if_neg (by omega)]
  | succ m ih =>
    intro j d h
    rw [Sort.shiftUp]
    split
    · split
      · rfl
      · rw [ih _ _ (by omega), size_swp]
    · rfl
theorem shD_l {N : Nat} {body : Int × List α → Option ((Int × List α) ⊕ List α)} (h0 : ∀ d : Array α, d.size = N → body (((0 : Nat) : Int), d.toList) = some (.inr d.toList))
    (h : ∀ (j : Nat) (d : Array α), d.size = N → j + 1 < N → body (((j + 1 : Nat) : Int), d.toList) = some (if (!lt d[j + 1]! d[j]!) = true then .inr d.toList else .inl ((j : Int), (Sort.swp d (j + 1) j).toList))) :
    ∀ (j : Nat) (d : Array α) (n : Nat), d.size = N → j < N → j < n → loopD body n ((j : Int), d.toList) = some (Sort.shiftDown lt j d).toList
  | 0, d, n, hd, hj, hn => by
    obtain ⟨n, rfl⟩ : ∃ k, n = k + 1 := ⟨n - 1, by omega⟩
    rw [loopD_end (h0 d hd)]; rfl
  | j + 1, d, n, hd, hj, hn => by
    obtain ⟨n, rfl⟩ : ∃ k, n = k + 1 := ⟨n - 1, by omega⟩
    have := h j d hd hj
    unfold Sort.shiftDown
    by_cases hc : (!lt d[j + 1]! d[j]!) = true
    · rw [if_pos hc] at this
      rw [loopD_end this, if_pos hc]
    · rw [if_neg hc] at this
      rw [loopD_go this, if_neg hc]
      exact shD_l h0 h j _ n (by rw [size_swp]; exact hd) (by omega) (by omega)
theorem shU_l {N b : Nat} (hbN : b ≤ N) {body : Int × List α → Option ((Int × List α) ⊕ List α)}
    (h : ∀ (j : Nat) (d : Array α), d.size = N → 1 ≤ j → body ((j : Int), d.toList) = some (if j < b then (if (!lt d[j]! d[j - 1]!) = true then .inr d.toList else .inl (((j + 1 : Nat) : Int), (Sort.swp d j (j - 1)).toList)) else .inr d.toList)) :
    ∀ (m j : Nat) (d : Array α) (n : Nat), b - j ≤ m → 1 ≤ j → d.size = N → b - j < n → loopD body n ((j : Int), d.toList) = some (Sort.shiftUp lt b j d).toList := by
  intro m
  induction m with
  | zero =>
    intro j d n hm h1 hd hn
    obtain ⟨n, rfl⟩ : ∃ k, n = k + 1 := ⟨n - 1, by omega⟩
    have := h j d hd h1
    rw [if_neg (by omega)] at this
    rw [loopD_end this, Sort.shiftUp, if_neg (by omega)]
  | succ m ih =>
    intro j d n hm h1 hd hn
    obtain ⟨n, rfl⟩ : ∃ k, n = k + 1 := ⟨n - 1, by omega⟩
    have := h j d hd h1
    rw [Sort.shiftUp]
    by_cases hc : j < b
    · rw [if_pos hc] at this ⊢
      by_cases hc2 : (!lt d[j]! d[j - 1]!) = true
      · rw [if_pos hc2] at this ⊢
        rw [loopD_end this]
      · rw [if_neg hc2] at this ⊢
        rw [loopD_go this]
        exact ih (j + 1) _ n (by omega) (by omega) (by rw [size_swp]; exact hd) (by omega)
    · rw [if_neg hc] at this ⊢
      rw [loopD_end this]
/-- One step of the few insertions. -/
def piD (lt : α → α → Bool) (a b i : Nat) (d : Array α) : Array α :=
  let d := Sort.swp d i (i - 1)
  let d := if i - a ≥ 2 then Sort.shiftDown lt (i - 1) d else d
  if b - i ≥ 2 then Sort.shiftUp lt b (i + 1) d else d
theorem size_piD (a b i : Nat) (d : Array α) : (piD lt a b i d).size = d.size := by
  unfold piD
  simp only
  split <;> split <;> simp only [size_shiftUp b _ _ _ (Nat.le_refl _), size_shiftDown, size_swp]
theorem pi_l {a b N : Nat} (hab : a < b) {body : Int × Int × List α → Option ((Int × Int × List α) ⊕ (List α ⊕ (Bool × List α)))}
    (h0 : ∀ (i : Nat) (d : Array α), body ((i : Int), 5, d.toList) = some (.inr (.inl d.toList)))
    (h : ∀ (i j : Nat) (d : Array α), d.size = N → j < 5 → a + 1 ≤ i → i ≤ b → body ((i : Int), (j : Int), d.toList) = some (
      let i2 := Sort.scanSorted lt d b i
      if i2 = b then .inr (.inr (true, d.toList)) else if b - a < 50 then .inr (.inr (false, d.toList)) else .inl ((i2 : Int), ((j + 1 : Nat) : Int), (piD lt a b i2 d).toList))) :
    ∀ (s j i : Nat) (d : Array α) (n : Nat), j + s = 5 → d.size = N → a + 1 ≤ i → i ≤ b → s < n → ∃ o, loopD body n ((i : Int), (j : Int), d.toList) = some o ∧
      (o = .inl (Sort.partialIns lt a b s i d).1.toList ∧ (Sort.partialIns lt a b s i d).2 = false ∨ o = .inr ((Sort.partialIns lt a b s i d).2, (Sort.partialIns lt a b s i d).1.toList))
  | 0, j, i, d, n, hs, hd, hi, hib, hn => by
    obtain ⟨n, rfl⟩ : ∃ k, n = k + 1 := ⟨n - 1, by omega⟩
    obtain rfl : j = 5 := by omega
    exact ⟨_, loopD_end (h0 i d), .inl ⟨rfl, rfl⟩⟩
  | s + 1, j, i, d, n, hs, hd, hi, hib, hn => by
    obtain ⟨n, rfl⟩ : ∃ k, n = k + 1 := ⟨n - 1, by omega⟩
    have hh := h i j d hd (by omega) hi hib
    have hin := scanS_in (lt := lt) d b _ i (Nat.le_refl _) hib
    unfold Sort.partialIns
    simp only at hh ⊢
    by_cases hc : Sort.scanSorted lt d b i = b
    · rw [if_pos hc] at hh
      rw [if_pos hc]
      exact ⟨_, loopD_end hh, .inr rfl⟩
    · rw [if_neg hc] at hh
      rw [if_neg hc]
      by_cases hc2 : b - a < 50
      · rw [if_pos hc2] at hh
        rw [if_pos hc2]
        exact ⟨_, loopD_end hh, .inr rfl⟩
      · rw [if_neg hc2] at hh
        rw [if_neg hc2]
        rw [loopD_go hh]
        exact pi_l hab h0 h s (j + 1) _ _ n (by omega) (by rw [size_piD]; exact hd) (by omega) hin.2 (by omega)
theorem pi_lb {a b N : Nat} (hab : a < b) {body : Int × Int × List α → Option ((Int × Int × List α) ⊕ (List α ⊕ (Bool × List α)))} {f : List α ⊕ (Bool × List α) → Option (Bool × List α)} (hf : (∀ l, f (.inl l) = some (false, l)) ∧ ∀ l, f (.inr l) = some l)
    (h0 : ∀ (i : Nat) (d : Array α), body ((i : Int), 5, d.toList) = some (.inr (.inl d.toList)))
    (h : ∀ (i j : Nat) (d : Array α), d.size = N → j < 5 → a + 1 ≤ i → i ≤ b → body ((i : Int), (j : Int), d.toList) = some (
      let i2 := Sort.scanSorted lt d b i
      if i2 = b then .inr (.inr (true, d.toList)) else if b - a < 50 then .inr (.inr (false, d.toList)) else .inl ((i2 : Int), ((j + 1 : Nat) : Int), (piD lt a b i2 d).toList)))
    (d : Array α) (n : Nat) (hd : d.size = N) (hn : 5 < n) : (loopD body n (((a + 1 : Nat) : Int), 0, d.toList)).bind f = some ((Sort.partialInsertionSort lt d a b).2, (Sort.partialInsertionSort lt d a b).1.toList) := by
  obtain ⟨o, ho, hc⟩ := pi_l hab h0 h 5 0 (a + 1) d n (by omega) hd (by omega) (by omega) hn
  rw [show ((0 : Int)) = ((0 : Nat) : Int) from rfl, ho]
  rcases hc with ⟨rfl, h2⟩ | rfl
  · rw [Option.bind_some, hf.1]
    show some (false, _) = some ((Sort.partialIns lt a b 5 (a + 1) d).2, _)
    rw [h2]; rfl
  · rw [Option.bind_some, hf.2]; rfl
end
end Go.Pv
