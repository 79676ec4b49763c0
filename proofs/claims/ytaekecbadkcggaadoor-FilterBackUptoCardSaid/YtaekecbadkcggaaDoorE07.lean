/- Layer 7, plainly: which filters may be, and which are the same. -/
import Derived.Test.YtaekecbadkcggaaDoorE06b
import Derived.Test.YtaekecbadkcggaaDoorD07
namespace Go.Proofs.YtaekecbadkcggaaDoor
open Go.Pv
set_option linter.unusedSimpArgs false
set_option linter.unusedVariables false
set_option linter.unusedSectionVars false
set_option maxRecDepth 100000

theorem dIxF (l : List tFilter) (f : tFilter → Option Bool) (p : tFilter → Bool) (hf : ∀ x ∈ l, f x = some (p x)) (hl : l.length ≤ maxLen) {n : Nat} (hn : l.length < n) : dslices_IndexFunc_Filter n l f = some (ixI p l) := by
  unfold dslices_IndexFunc_Filter
  refine (congrArg (fun o => Option.bind o _) (ix_loop (p := p) (l := l) (fun i h => ?_) ?_ hl hn)).trans ?_
  rotate_left 2
  · unfold ixI; cases l.findIdx? p <;> rfl
  · have h1 : decide ((i : Int) < (l.length : Int)) = true := by simpa using h
    rw [h1, gi_lt h]
    have h2 := hf _ (List.getElem_mem h)
    cases hx : l[i] with
    | mk a b c d e =>
      rw [hx] at h2
      simp only [cond_true, Option.bind_some, h2]
      cases p (.mk a b c d e) <;> rfl
  · simp
theorem dIxA (l : List tAttr) (f : tAttr → Option Bool) (p : tAttr → Bool) (hf : ∀ x ∈ l, f x = some (p x)) (hl : l.length ≤ maxLen) {n : Nat} (hn : l.length < n) : dslices_IndexFunc_Attr n l f = some (ixI p l) := by
  unfold dslices_IndexFunc_Attr
  refine (congrArg (fun o => Option.bind o _) (ix_loop (p := p) (l := l) (fun i h => ?_) ?_ hl hn)).trans ?_
  rotate_left 2
  · unfold ixI; cases l.findIdx? p <;> rfl
  · have h1 : decide ((i : Int) < (l.length : Int)) = true := by simpa using h
    rw [h1, gi_lt h]
    simp only [cond_true, Option.bind_some, hf _ (List.getElem_mem h)]
    cases p l[i] <;> rfl
  · simp
theorem dCfF (l : List tFilter) (f : tFilter → Option Bool) (p : tFilter → Bool) (hf : ∀ x ∈ l, f x = some (p x)) (hl : l.length ≤ maxLen) {n : Nat} (hn : l.length < n) : dslices_ContainsFunc_Filter n l f = some (l.any p) := by
  unfold dslices_ContainsFunc_Filter; rw [dIxF l f p hf hl hn, Option.bind_some, ixI_ge]
theorem dCfA (l : List tAttr) (f : tAttr → Option Bool) (p : tAttr → Bool) (hf : ∀ x ∈ l, f x = some (p x)) (hl : l.length ≤ maxLen) {n : Nat} (hn : l.length < n) : dslices_ContainsFunc_Attr n l f = some (l.any p) := by
  unfold dslices_ContainsFunc_Attr; rw [dIxA l f p hf hl hn, Option.bind_some, ixI_ge]

theorem okF_mk {k : Int} {a b : Str} {v : List tAttr} {l : List tFilter} (h : ok_tFilter (.mk k a b v l)) : v.length ≤ maxLen ∧ l.length ≤ maxLen ∧ oks_tFilter l := by
  simp only [ok_tFilter] at h
  exact ⟨h.2.2.2.1.1, h.2.2.2.2.1, h.2.2.2.2.2⟩
theorem oks_mem : ∀ {l : List tFilter}, oks_tFilter l → ∀ x ∈ l, ok_tFilter x
  | [], _, _, h => by cases h
  | y :: l, h, x, hx => by
    simp only [oks_tFilter] at h
    rcases List.mem_cons.1 hx with rfl | hx
    · exact h.1
    · exact oks_mem h.2 x hx


mutual
def nodesF : tFilter → Nat
  | .mk _ _ _ _ l => nodesL l + 1
def nodesL : List tFilter → Nat
  | [] => 0
  | x :: l => nodesF x + nodesL l
end
mutual
def deepF : tFilter → Nat
  | .mk _ _ _ _ l => deepL l + 1
def deepL : List tFilter → Nat
  | [] => 0
  | x :: l => max (deepF x) (deepL l)
end
mutual
theorem deep_nodes : ∀ f : tFilter, deepF f ≤ nodesF f
  | .mk _ _ _ _ l => by have := deepL_nodes l; simp only [deepF, nodesF]; omega
theorem deepL_nodes : ∀ l : List tFilter, deepL l ≤ nodesL l
  | [] => Nat.le_refl _
  | x :: l => by have := deep_nodes x; have := deepL_nodes l; simp only [deepL, nodesL]; omega
end
theorem nodes_mem : ∀ {l : List tFilter} {x : tFilter}, x ∈ l → nodesF x ≤ nodesL l
  | y :: l, x, h => by
    rcases List.mem_cons.1 h with rfl | h
    · simp only [nodesL]; omega
    · have := nodes_mem h; simp only [nodesL]; omega
theorem nodesL_take : ∀ (l : List tFilter) (k : Nat), nodesL (l.take k) ≤ nodesL l
  | [], k => by simp
  | x :: l, 0 => by simp [nodesL]
  | x :: l, k + 1 => by have := nodesL_take l k; simp only [List.take_succ_cons, nodesL]; omega
theorem nodesL_snoc : ∀ (l : List tFilter) (x : tFilter), nodesL (l ++ [x]) = nodesL l + nodesF x
  | [], x => by simp [nodesL]
  | y :: l, x => by rw [List.cons_append, nodesL, nodesL, nodesL_snoc l x]; omega
theorem len_nodes : ∀ l : List tFilter, l.length ≤ nodesL l
  | [] => Nat.le_refl _
  | x :: l => by have := len_nodes l; cases x; simp only [nodesL, nodesF, List.length_cons]; omega
theorem deepL_snoc : ∀ (l : List tFilter) (x : tFilter), deepL (l ++ [x]) = max (deepL l) (deepF x)
  | [], x => by simp [deepL]
  | y :: l, x => by rw [List.cons_append, deepL, deepL, deepL_snoc l x]; omega
theorem take_snoc {α : Type} {l : List α} {k : Nat} (h : k < l.length) : l.take (k + 1) = l.take k ++ [l[k]] := by
  rw [List.take_add_one, List.getElem?_eq_getElem h]; rfl
def nameB (s : Str) : Bool := decide (s.length ≤ 20) && (match tok s with | some (x, j) => x.k == 1 && j == s.length | none => false)
def plainB (s : Str) : Bool := s.all isTx && decide (s.length ≤ 200)
def valB (t0 : Bool) (a : tAttr) : Bool := a.Name == [] && (a.Text == t0 && (bif a.Text then a.N == 0 && plainB a.S else a.S == []))
def opsL : List Str := [[60], [60, 61], [61], [33, 61], [62, 61], [62]]
def leafB (k : Int) (nm op : Str) (vals : List tAttr) (l : List tFilter) : Bool := nameB nm && (l.isEmpty && (match vals with
  | [] => false
  | v :: r => (v :: r).all (valB v.Text) && (bif k == 4 then r.isEmpty && opsL.contains op else bif k == 5 then r.isEmpty && (v.Text && op == []) else decide (r.length ≤ 19) && op == [])))
def headB (k : Int) (n : Nat) : Bool := bif k == 1 || k == 2 then decide (2 ≤ n) else bif k == 3 then n == 1 else bif k == 7 then n == 0 else false
def kindF : tFilter → Int
  | .mk k _ _ _ _ => k
mutual
def fineF : tFilter → Bool
  | .mk k nm op vals l => bif k == 4 || (k == 5 || k == 6) then leafB k nm op vals l else headB k l.length && (nm == [] && (op == [] && (vals.isEmpty && fineL k l)))
def fineL (k : Int) : List tFilter → Bool
  | [] => true
  | x :: l => (fineF x && (bif k == 3 then true else !(kindF x == k))) && fineL k l
end
theorem fineL_eq (k : Int) : ∀ l, fineL k l = l.all fun x => fineF x && (bif k == 3 then true else !(kindF x == k))
  | [] => rfl
  | x :: l => by rw [fineL, fineL_eq k l]; rfl
def mayF (f : tFilter) : Bool := decide (deepF f ≤ 10) && (decide (nodesF f ≤ 60) && fineF f)
/-! ### names, texts -/
theorem tok_name {l : Str} {x : Tok} {j : Nat} (h : tok l = some (x, j)) (hk : x.k = 1) : x.s = l.take j ∧ ∃ c t, l = c :: t ∧ isLow c = true := by
  cases l with
  | nil => cases h
  | cons c t =>
    rw [tok] at h
    split at h
    · rename_i hc
      split at h
      · simp only [Option.some.injEq, Prod.mk.injEq] at h
        obtain ⟨rfl, rfl⟩ := h
        exact ⟨rfl, c, t, rfl, hc⟩
      · cases h
    · split at h
      · cases hn : numS (c :: t) with
        | none => rw [hn] at h; cases h
        | some p => rw [hn] at h; simp only [Option.map_some, Option.some.injEq, Prod.mk.injEq] at h; rw [← h.1] at hk; cases hk
      · split at h
        · split at h
          · simp only [Option.some.injEq, Prod.mk.injEq] at h; rw [← h.1] at hk; cases hk
          · cases h
        · split at h
          · simp only [Option.some.injEq, Prod.mk.injEq] at h; rw [← h.1] at hk; cases hk
          · split at h
            · simp only [Option.some.injEq, Prod.mk.injEq] at h; rw [← h.1] at hk; cases hk
            · cases h
theorem toks_name : ∀ (m : Nat) (l : Str) (a : Nat) (L : List ttokenToken), l.length ≤ m → toks a l = some L → ∀ y ∈ L, y.Kind = 1 → ∃ c t, y.S = c :: t ∧ isLow c = true
  | _, [], a, L, _, h, y, hy, _ => by rw [toks_nil] at h; cases h; cases hy
  | 0, c :: t, a, L, hm, h, y, hy, _ => by simp at hm
  | m + 1, c :: t, a, L, hm, h, y, hy, hk => by
    simp only [List.length_cons] at hm
    by_cases hc : c = 32
    · subst hc; rw [toks_sp] at h
      exact toks_name m t _ _ (by omega) h y hy hk
    · cases ht : tok (c :: t) with
      | none => rw [toks_none hc ht] at h; cases h
      | some p =>
        obtain ⟨x, j⟩ := p
        rw [toks_some hc ht] at h
        obtain ⟨L', h1, rfl⟩ := Option.map_eq_some_iff.1 h
        have hj := tok_len ht
        rcases List.mem_cons.1 hy with rfl | hy
        · obtain ⟨h2, c', t', h3, h4⟩ := tok_name ht hk
          cases h3
          obtain ⟨k, rfl⟩ : ∃ k, j = k + 1 := ⟨j - 1, by omega⟩
          exact ⟨c, t.take k, h2, h4⟩
        · exact toks_name m ((c :: t).drop j) _ _ (by simp; omega) h1 y hy hk
theorem dname {n : Nat} (s : Str) (hn : 2000 < n) : dfilter_name n s = some (nameB s) := by
  unfold dfilter_name nameB
  by_cases h20 : s.length ≤ 20
  · have hd : decide ((s.length : Int) > 20) = false := by simp; omega
    rw [hd, cond_false, dCut hn, Option.bind_some, decide_eq_true h20, Bool.true_and]
    unfold cutC
    rw [if_neg (by omega)]
    cases s with
    | nil => rw [toks_nil]; rfl
    | cons c t =>
      by_cases hc : c = 32
      · subst hc
        have htk : tok (32 :: t) = none := by rw [tok, if_neg (by decide), if_neg (by decide), if_neg (by decide), if_neg (by simp), if_neg (by decide)]
        rw [htk]
        cases ht : toks 0 (32 :: t) with
        | none => rfl
        | some L =>
          cases L with
          | nil => rfl
          | cons y r =>
            cases r with
            | cons z r =>
              have : ((((y :: z :: r).length : Nat) : Int) == 1) = false := beq_false_of_ne (by simp; omega)
              simp only [Option.isNone_none, cond_true, this, cond_false]
            | nil =>
              have h1 : (((([y] : List ttokenToken).length : Nat) : Int) == 1) = true := rfl
              have hg : gi [y] 0 = some y := rfl
              simp only [Option.isNone_none, cond_true, h1, hg, Option.bind_some]
              by_cases hk : y.Kind = 1
              · obtain ⟨c, t', e1, e2⟩ := toks_name _ _ _ _ (Nat.le_refl _) ht y (by simp) hk
                have : (y.S == (32 :: t : Str)) = false := by
                  rw [e1]
                  apply beq_false_of_ne
                  intro h; cases h; exact absurd e2 (by decide)
                rw [this]; cases y.Kind == 1 <;> rfl
              · have : (y.Kind == 1) = false := by simpa using hk
                rw [this]; rfl
      · cases htk : tok (c :: t) with
        | none => rw [toks_none hc htk]; rfl
        | some p =>
          obtain ⟨x, j⟩ := p
          rw [toks_some hc htk]
          have hj := tok_len htk
          simp only
          cases ht : toks (0 + j) ((c :: t).drop j) with
          | none =>
            have : j ≠ (c :: t).length := by
              rintro rfl
              rw [List.drop_length] at ht; rw [toks_nil] at ht; cases ht
            have hb : (j == (c :: t).length) = false := by simpa using this
            rw [hb]; cases x.k == 1 <;> rfl
          | some L =>
            cases L with
            | cons z r =>
              have hne : j ≠ (c :: t).length := by
                rintro rfl
                rw [List.drop_length] at ht; rw [toks_nil] at ht; cases ht
              have hb : (j == (c :: t).length) = false := by simpa using hne
              have : (((((⟨x.k, ((0 : Nat) : Int), x.n, x.s⟩ : ttokenToken) :: z :: r).length : Nat) : Int) == 1) = false := beq_false_of_ne (by simp; omega)
              simp only [Option.map_some, Option.isNone_none, cond_true, this, cond_false, hb, Bool.and_false]
            | nil =>
              have h1 : ((((([⟨x.k, ((0 : Nat) : Int), x.n, x.s⟩] : List ttokenToken).length : Nat) : Int)) == 1) = true := rfl
              have hg : gi ([⟨x.k, ((0 : Nat) : Int), x.n, x.s⟩] : List ttokenToken) 0 = some ⟨x.k, ((0 : Nat) : Int), x.n, x.s⟩ := rfl
              simp only [Option.map_some, Option.isNone_none, cond_true, h1, hg, Option.bind_some]
              by_cases hk : x.k = 1
              · obtain ⟨e1, _⟩ := tok_name htk hk
                have hk' : (x.k == 1) = true := by simpa using hk
                rw [hk', e1]
                simp only [cond_true, Bool.true_and]
                congr 1
                rw [Bool.eq_iff_iff]
                simp only [beq_iff_eq]
                constructor
                · intro h; have := congrArg List.length h; rw [List.length_take] at this; omega
                · rintro rfl; exact List.take_length
              · have hk' : (x.k == 1) = false := by simpa using hk
                rw [hk']; rfl
  · have hd : decide ((s.length : Int) > 20) = true := by simp; omega
    rw [hd, decide_eq_false h20]; rfl
theorem dtext1 (n : Nat) (c : UInt8) : dfilter_text_1 n (c.toNat : Int) = some (!isTx c) := by
  have h1 : decide (((c.toNat : Nat) : Int) < 32) = !decide (32 ≤ c.toNat) := by rw [Bool.eq_iff_iff]; simp; omega
  have h2 : decide (((c.toNat : Nat) : Int) > 126) = !decide (c.toNat ≤ 126) := by rw [Bool.eq_iff_iff]; simp; omega
  have h3 := bne34 c
  have h4 : (((c.toNat : Nat) : Int) == 34) = !(c != 34) := by rw [← h3]; show _ = !(!_); rw [Bool.not_not]
  unfold dfilter_text_1 isTx
  rw [h1, h2, h4]
  cases decide (32 ≤ c.toNat) <;> cases decide (c.toNat ≤ 126) <;> rfl
theorem dtext {n : Nat} (s : Str) (hn : 300 < n) : dfilter_text n s = some (plainB s) := by
  unfold dfilter_text plainB
  by_cases h : s.length ≤ 200
  · have hd : decide ((s.length : Int) ≤ 200) = true := by simp; omega
    have hI : dslices_IndexFunc_byte n s (fun x0 => dfilter_text_1 n x0) = some (ixI (fun c => !isTx c) s) := by
      unfold dslices_IndexFunc_byte
      refine (congrArg (fun o => Option.bind o _) (ix_loop (p := fun c => !isTx c) (l := s) (fun i h => ?_) ?_ (Nat.le_trans h (by decide)) (by omega))).trans ?_
      rotate_left 2
      · unfold ixI; cases s.findIdx? (fun c => !isTx c) <;> rfl
      · have h1 : decide ((i : Int) < (s.length : Int)) = true := by simpa using h
        rw [h1, gi_lt h]
        simp only [cond_true, Option.bind_some, dtext1]
        cases isTx s[i] <;> rfl
      · simp
    unfold dslices_ContainsFunc_byte
    rw [hd, cond_true, hI, Option.bind_some, ixI_ge, Option.bind_some, decide_eq_true h, Bool.and_true, List.all_eq_not_any_not]
  · have hd : decide ((s.length : Int) ≤ 200) = false := by simp; omega
    rw [hd, decide_eq_false h, Bool.and_false]; rfl
theorem dvalue {n : Nat} (a : tAttr) (hn : 300 < n) : dfilter_value n a = some (valB a.Text a) := by
  unfold dfilter_value valB
  rw [dtext _ hn]
  cases a.Text <;> cases a.Name == [] <;> cases a.N == 0 <;> simp
theorem valB_same (t0 : Bool) (a : tAttr) : valB t0 a = (valB a.Text a && a.Text == t0) := by
  unfold valB
  cases a.Name == [] <;> cases a.Text <;> cases t0 <;> simp
theorem dops (n : Nat) : dfilter_ops n = some opsL := rfl
theorem dleaf {n : Nat} {k : Int} {nm op : Str} {vals : List tAttr} {l : List tFilter} (hv : vals.length ≤ maxLen) (hn2 : vals.length + 2000 < n) :
    dfilter_leaf n (.mk k nm op vals l) = some (leafB k nm op vals l) := by
  unfold dfilter_leaf leafB
  simp only [dname nm (show 2000 < n by omega), Option.bind_some]
  cases nameB nm with
  | false => rfl
  | true =>
    cases l with
    | cons x l =>
      have : decide ((((x :: l).length : Nat) : Int) > 0) = true := by simp
      rw [this]; rfl
    | nil =>
      cases vals with
      | nil => rfl
      | cons v r =>
        have h0 : decide (((([] : List tFilter).length : Nat) : Int) > 0) = false := rfl
        have h1 : ((((v :: r).length : Nat) : Int) == 0) = false := beq_false_of_ne (by simp; omega)
        have hg : gi (v :: r) 0 = some v := rfl
        have hc := dCfA (v :: r) (fun x0 => dfilter_leaf_1 n x0 (tFilter.mk k nm op (v :: r) [])) (fun a => !valB v.Text a) (fun a _ => by
          unfold dfilter_leaf_1
          rw [dvalue a (show 300 < n by omega), valB_same v.Text a]
          simp only [Option.bind_some, hg]
          cases valB a.Text a <;> cases a.Text <;> cases v.Text <;> rfl) hv (show (v :: r).length < n by omega)
        have hall : ((v :: r).any fun a => !valB v.Text a) = !(v :: r).all (valB v.Text) := by rw [List.all_eq_not_any_not, Bool.not_not]
        simp only [h0, h1, cond_false, hc, hall, Option.bind_some, Bool.not_true, Bool.true_and, List.isEmpty_nil]
        cases (v :: r).all (valB v.Text) with
        | false => rfl
        | true =>
          have e1 : ((((v :: r).length : Nat) : Int) == 1) = r.isEmpty := by cases r with
            | nil => rfl
            | cons w r => exact beq_false_of_ne (by simp; omega)
          have e20 : decide ((((v :: r).length : Nat) : Int) ≤ 20) = decide (r.length ≤ 19) := by rw [Bool.eq_iff_iff]; simp; omega
          simp only [e1, e20, hg, Option.bind_some, dops, dIdx (show opsL.length ≤ 1000000 by decide) (show opsL.length < n by show 6 < n; omega), Bool.not_true, cond_false, Bool.true_and]
          cases k == 4 <;> cases k == 5 <;> cases r.isEmpty <;> cases v.Text <;> cases decide (r.length ≤ 19) <;> rfl
theorem isEmpty_len {α : Type} (l : List α) : (((l.length : Nat) : Int) == 0) = l.isEmpty := by
  cases l with
  | nil => rfl
  | cons x l => exact beq_false_of_ne (by simp; omega)
theorem headB_1 {l : Nat} : decide ((l : Int) ≥ 2) = decide (2 ≤ l) := by rw [Bool.eq_iff_iff]; simp; omega
theorem nbeq (a b : Nat) : (((a : Nat) : Int) == (b : Int)) = (a == b) := by rw [Bool.eq_iff_iff]; simp; omega
theorem down {n : Nat} {k : Int} {nm op : Str} {vals : List tAttr} {l : List tFilter} (hv : vals.length ≤ maxLen) (hl : l.length ≤ maxLen) (hn2 : vals.length + l.length + 2000 < n) :
    dfilter_own n (.mk k nm op vals l) = some (bif k == 4 || (k == 5 || k == 6) then leafB k nm op vals l else headB k l.length && (nm == [] && (op == [] && (vals.isEmpty && (bif k == 3 then true else !(l.any fun x => kindF x == k)))))) := by
  unfold dfilter_own headB
  have hc := dCfF l (fun x0 => dfilter_own_1 n x0 (tFilter.mk k nm op vals l)) (fun x => kindF x == k) (fun x _ => by cases x; rfl) hl (show l.length < n by omega)
  have e1 : (((l.length : Nat) : Int) == 1) = (l.length == 1) := nbeq _ 1
  have e0 : (((l.length : Nat) : Int) == 0) = (l.length == 0) := nbeq _ 0
  simp only [hc, dleaf hv (show vals.length + 2000 < n by omega), Option.bind_some, isEmpty_len vals, headB_1, e1, e0]
  by_cases h1 : k = 1
  · subst h1; cases nm == [] <;> cases op == [] <;> cases vals.isEmpty <;> cases decide (2 ≤ l.length) <;> simp
  by_cases h2 : k = 2
  · subst h2; cases nm == [] <;> cases op == [] <;> cases vals.isEmpty <;> cases decide (2 ≤ l.length) <;> simp
  by_cases h3 : k = 3
  · subst h3; cases nm == [] <;> cases op == [] <;> cases vals.isEmpty <;> cases l.length == 1 <;> simp
  by_cases h7 : k = 7
  · subst h7
    cases nm == [] <;> cases op == [] <;> cases vals.isEmpty <;> cases hz : l.length == 0 <;> simp
    have : l = [] := List.length_eq_zero_iff.1 (by simpa using hz)
    rw [this]; simp
  have b1 : (k == 1) = false := by simpa using h1
  have b2 : (k == 2) = false := by simpa using h2
  have b3 : (k == 3) = false := by simpa using h3
  have b7 : (k == 7) = false := by simpa using h7
  rw [b1, b2, b3, b7]
  cases k == 4 <;> cases k == 5 <;> cases k == 6 <;> cases nm == [] <;> cases op == [] <;> cases vals.isEmpty <;> rfl
theorem dfine : ∀ f : tFilter, ok_tFilter f → Ev fun n => dfilter_fine n f = some (fineF f)
  | .mk k nm op vals l, hf => by
    obtain ⟨h1, h2, h3⟩ := okF_mk hf
    have ih : Ev fun n => ∀ x ∈ l, dfilter_fine n x = some (fineF x) := Ev.all fun x hx => dfine x (oks_mem h3 x hx)
    refine Ev.succ (Ev.succ ((ih.big (vals.length + l.length + 2001)).mono fun n hh => ?_))
    obtain ⟨hn, ih⟩ := hh
    have e1 : ∀ x ∈ l, dfilter_fine_1 (n + 1) x = some (!fineF x) := fun x hx => by
      have := ih x hx
      cases x; rw [dfilter_fine_1]; simp only [this, Option.bind_some]
    rw [dfilter_fine, fineF]
    simp only [down h1 h2 (show vals.length + l.length + 2000 < n + 1 by omega), Option.bind_some, dCfF l _ (fun x => !fineF x) e1 h2 (show l.length < n + 1 by omega)]
    have hall : (!l.any fun x => !fineF x) = l.all fineF := by rw [List.all_eq_not_any_not]
    rw [hall]
    cases hk : (k == 4 || (k == 5 || k == 6)) with
    | true =>
      simp only [cond_true]
      cases hL : leafB k nm op vals l with
      | false => rfl
      | true =>
        have : l = [] := by
          unfold leafB at hL
          cases l with
          | nil => rfl
          | cons x l => simp at hL
        rw [this]; rfl
    | false =>
      simp only [cond_false]
      rw [fineL_eq]
      have hsplit : (l.all fun x => fineF x && (bif k == 3 then true else !(kindF x == k))) = ((bif k == 3 then true else !(l.any fun x => kindF x == k)) && l.all fineF) := by
        cases k == 3 with
        | true => simp
        | false =>
          simp only [cond_false]
          rw [Bool.eq_iff_iff]
          simp only [List.all_eq_true, Bool.and_eq_true, Bool.not_eq_true', List.any_eq_false]
          exact ⟨fun h => ⟨fun x hx => by have := (h x hx).2; simpa using this, fun x hx => (h x hx).1⟩, fun h x hx => ⟨h.2 x hx, by have := h.1 x hx; simpa using this⟩⟩
      rw [hsplit]
      cases headB k l.length <;> cases nm == [] <;> cases op == [] <;> cases vals.isEmpty <;> cases (bif k == 3 then true else !(l.any fun x => kindF x == k)) <;> rfl
theorem dsize : ∀ f : tFilter, ok_tFilter f → nodesF f ≤ 4611686018427387904 → Ev fun n => dfilter_size n f = some ((deepF f : Int), (nodesF f : Int))
  | .mk k nm op vals l, hf, hN => by
    obtain ⟨h1, h2, h3⟩ := okF_mk hf
    have hNl : nodesL l + 1 ≤ 4611686018427387904 := by simpa only [nodesF] using hN
    have ih : Ev fun n => ∀ x ∈ l, dfilter_size n x = some ((deepF x : Int), (nodesF x : Int)) := Ev.all fun x hx => dsize x (oks_mem h3 x hx) (by have := nodes_mem hx; omega)
    refine Ev.succ ((ih.big (l.length + 1)).mono fun n hh => ?_)
    obtain ⟨hn, ih⟩ := hh
    rw [dfilter_size, deepF, nodesF]
    have hd := deepL_nodes l
    refine (congrArg (fun o => Option.bind o _) (loopD_traj (fun i => (((deepL (l.take i) : Nat) : Int), ((nodesL (l.take i) + 1 : Nat) : Int), (i : Int))) l.length (e := ((deepL l : Int), ((nodesL l + 1 : Nat) : Int))) (fun i hi => ?_) ?_ n (by omega))).trans ?_
    · have hde : decide ((i : Int) < (l.length : Int)) = true := by simpa using hi
      have h5 := ih _ (List.getElem_mem hi)
      have hsn := take_snoc hi
      have hnt := nodesL_take l (i + 1)
      rw [hsn, nodesL_snoc] at hnt
      simp only [hde, cond_true, gi_lt hi, Option.bind_some]
      rw [hsn, deepL_snoc, nodesL_snoc]
      cases hx : l[i] with
      | mk a b c d e =>
        rw [hx] at h5 hnt
        have hmax : (if ((deepF (.mk a b c d e) : Nat) : Int) > ((deepL (l.take i) : Nat) : Int) then ((deepF (.mk a b c d e) : Nat) : Int) else ((deepL (l.take i) : Nat) : Int)) = ((max (deepL (l.take i)) (deepF (.mk a b c d e)) : Nat) : Int) := by
          split <;> omega
        have hW : W (((nodesL (l.take i) + 1 : Nat) : Int) + ((nodesF (.mk a b c d e) : Nat) : Int)) = ((nodesL (l.take i) + nodesF (.mk a b c d e) + 1 : Nat) : Int) := by
          rw [show ((nodesL (l.take i) + 1 : Nat) : Int) + ((nodesF (.mk a b c d e) : Nat) : Int) = ((nodesL (l.take i) + nodesF (.mk a b c d e) + 1 : Nat) : Int) by omega]; exact W_nat (by omega)
        simp only [h5, Option.bind_some, hmax, hW, W_suc (show i + 1 < 9223372036854775808 by have := lt_max h2; omega)]
    · have hde : decide ((l.length : Int) < (l.length : Int)) = false := by simp
      simp only [hde, cond_false, List.take_length]
    · simp only [Option.bind_some]
      rw [W_suc (by omega)]
theorem dMay {f : tFilter} (hf : ok_tFilter f) (hN : nodesF f ≤ 4611686018427387904) : Ev fun n => dfilter_May n f = some (mayF f) := by
  refine (dfine f hf).mono2 (dsize f hf hN) fun n e1 e2 => ?_
  unfold dfilter_May mayF
  have d1 : decide (((deepF f : Nat) : Int) ≤ 10) = decide (deepF f ≤ 10) := by rw [Bool.eq_iff_iff]; simp; omega
  have d2 : decide (((nodesF f : Nat) : Int) ≤ 60) = decide (nodesF f ≤ 60) := by rw [Bool.eq_iff_iff]; simp; omega
  cases f
  simp only [e1, e2, Option.bind_some, d1, d2]
  cases decide (deepF _ ≤ 10) <;> cases decide (nodesF _ ≤ 60) <;> rfl
/-! ### the same -/
def eqA (a b : tAttr) : Bool := (a.Name == b.Name) && ((a.Text == b.Text) && ((a.N == b.N) && ((a.S == b.S) && true)))
theorem eqA_iff {a b : tAttr} : eqA a b = true ↔ a = b := by
  cases a; cases b; unfold eqA; simp
def eqAs : List tAttr → List tAttr → Bool
  | [], [] => true
  | a :: l, b :: m => eqA a b && eqAs l m
  | _, _ => false
theorem eqAs_len : ∀ {a b : List tAttr}, a.length ≠ b.length → eqAs a b = false
  | [], [], h => absurd rfl h
  | [], _ :: _, _ => rfl
  | _ :: _, [], _ => rfl
  | x :: a, y :: b, h => by rw [eqAs, eqAs_len (a := a) (b := b) (by simpa using h)]; simp
mutual
def eqF : tFilter → tFilter → Bool
  | .mk k a b v l, .mk k2 a2 b2 v2 l2 => k == k2 && (a == a2 && (b == b2 && (eqAs v v2 && eqFs l l2)))
def eqFs : List tFilter → List tFilter → Bool
  | [], [] => true
  | x :: l, y :: m => eqF x y && eqFs l m
  | [], _ :: _ => false
  | _ :: _, [] => false
end
mutual
theorem eqF_refl : ∀ f, eqF f f = true
  | .mk k a b v l => by
    have h : ∀ v, eqAs v v = true := by
      intro v
      induction v with
      | nil => rfl
      | cons x v ih => rw [eqAs, eqA_iff.2 rfl, ih]; rfl
    rw [eqF, h v, eqFs_refl l]; simp
theorem eqFs_refl : ∀ l, eqFs l l = true
  | [] => rfl
  | x :: l => by rw [eqFs, eqF_refl x, eqFs_refl l]; rfl
end
theorem eqAs_iff : ∀ {a b : List tAttr}, eqAs a b = true ↔ a = b
  | [], [] => by simp [eqAs]
  | [], _ :: _ => by simp [eqAs]
  | _ :: _, [] => by simp [eqAs]
  | x :: a, y :: b => by rw [eqAs, Bool.and_eq_true, eqA_iff, eqAs_iff (a := a) (b := b)]; simp
mutual
theorem eqF_iff : ∀ (f g : tFilter), eqF f g = true ↔ f = g
  | .mk k a b v l, .mk k2 a2 b2 v2 l2 => by
    rw [eqF]; simp only [Bool.and_eq_true, beq_iff_eq, eqAs_iff, eqFs_iff l l2, tFilter.mk.injEq]
theorem eqFs_iff : ∀ (l m : List tFilter), eqFs l m = true ↔ l = m
  | [], [] => by simp [eqFs]
  | [], _ :: _ => by simp [eqFs]
  | _ :: _, [] => by simp [eqFs]
  | x :: l, y :: m => by rw [eqFs, Bool.and_eq_true, eqF_iff x y, eqFs_iff l m]; simp
end
theorem eqFs_len : ∀ {a b : List tFilter}, a.length ≠ b.length → eqFs a b = false
  | [], [], h => absurd rfl h
  | [], _ :: _, _ => rfl
  | _ :: _, [], _ => rfl
  | x :: a, y :: b, h => by rw [eqFs, eqFs_len (a := a) (b := b) (by simpa using h)]; simp
/-- A loop that compares two rows of one length. -/
theorem two_loop {α : Type} {a b : List α} {e : α → α → Bool} {eL : List α → List α → Bool} (e0 : eL [] [] = true) (e1 : ∀ x y l m, eL (x :: l) (y :: m) = (e x y && eL l m)) (hl : a.length = b.length) (hm : a.length ≤ maxLen)
    {body : Int → Option (Int ⊕ (Unit ⊕ Bool))} (hb : ∀ i (h1 : i < a.length) (h2 : i < b.length), body (i : Int) = some (if e a[i] b[i] then .inl (W ((i : Int) + 1)) else .inr (.inr false))) (he : body (a.length : Int) = some (.inr (.inl ()))) {n : Nat} (hn : a.length < n) :
    loopD body n 0 = some (if eL a b then .inl () else .inr false) := by
  have key : ∀ (m k : Nat), k + m = a.length → ∀ n, m < n → loopD body n (k : Int) = some (if eL (a.drop k) (b.drop k) then .inl () else .inr false) := by
    intro m
    induction m with
    | zero =>
      intro k hk n hn
      obtain ⟨n, rfl⟩ : ∃ j, n = j + 1 := ⟨n - 1, by omega⟩
      rw [List.drop_of_length_le (by omega), List.drop_of_length_le (by omega), e0]
      obtain rfl : k = a.length := by omega
      exact loopD_end he
    | succ m ih =>
      intro k hk n hn
      obtain ⟨n, rfl⟩ : ∃ j, n = j + 1 := ⟨n - 1, by omega⟩
      have hka : k < a.length := by omega
      have hkb : k < b.length := by omega
      rw [List.drop_eq_getElem_cons hka, List.drop_eq_getElem_cons hkb, e1]
      have h := hb k hka hkb
      cases he : e a[k] b[k] with
      | false => rw [he] at h; rw [Bool.false_and]; exact loopD_end h
      | true =>
        rw [he] at h
        rw [Bool.true_and]
        refine (loopD_go (s' := ((k + 1 : Nat) : Int)) (by rw [h, W_suc (by have := lt_max hm; omega)]; rfl)).trans (ih (k + 1) (by omega) n (by omega))
  exact key a.length 0 (by omega) n hn
theorem dEqualA {n : Nat} (a b : List tAttr) (hm : a.length ≤ maxLen) (hn : a.length < n) : dslices_Equal_Attr n a b = some (eqAs a b) := by
  unfold dslices_Equal_Attr
  by_cases hl : a.length = b.length
  · have hd : ((a.length : Int) != (b.length : Int)) = false := by simp [hl]
    simp only [hd, cond_false]
    refine (congrArg (fun o => Option.bind o _) (two_loop (e := eqA) (eL := eqAs) rfl (fun _ _ _ _ => rfl) hl hm (fun i h1 h2 => ?_) ?_ hn)).trans ?_
    · have hd : decide ((i : Int) < (a.length : Int)) = true := by simpa using h1
      simp only [hd, cond_true, gi_lt h1, gi_lt h2, Option.bind_some]
      have : ((a[i].Name == b[i].Name) && ((a[i].Text == b[i].Text) && ((a[i].N == b[i].N) && ((a[i].S == b[i].S) && true)))) = eqA a[i] b[i] := rfl
      rw [this]
      cases eqA a[i] b[i] <;> rfl
    · have hd : decide ((a.length : Int) < (a.length : Int)) = false := by simp
      simp only [hd, cond_false]
    · cases eqAs a b <;> rfl
  · have hd : ((a.length : Int) != (b.length : Int)) = true := by simp; omega
    simp only [hd, cond_true]; rw [eqAs_len hl]
theorem dSame : ∀ f g : tFilter, ok_tFilter f → Ev fun n => dfilter_Same n f g = some (eqF f g)
  | .mk k a b v l, .mk k2 a2 b2 v2 l2, hf => by
    obtain ⟨h1, h2, h3⟩ := okF_mk hf
    have ih : Ev fun n => ∀ p ∈ l.zip l2, dfilter_Same n p.1 p.2 = some (eqF p.1 p.2) := Ev.all fun p hp => by
      obtain ⟨x, y⟩ := p
      obtain ⟨hx, hy⟩ := List.of_mem_zip hp
      exact dSame x y (oks_mem h3 x hx)
    refine Ev.succ ((ih.big (v.length + l.length + 1)).mono fun n hh => ?_)
    obtain ⟨hn, ih⟩ := hh
    rw [dfilter_Same, eqF]
    have hE : dslices_EqualFunc_Filter n l l2 (fun x0 x1 => dfilter_Same n x0 x1) = some (eqFs l l2) := by
      unfold dslices_EqualFunc_Filter
      by_cases hl : l.length = l2.length
      · have hd : ((l.length : Int) != (l2.length : Int)) = false := by simp [hl]
        simp only [hd, cond_false]
        refine (congrArg (fun o => Option.bind o _) (two_loop (e := eqF) (eL := eqFs) (by rw [eqFs]) (fun _ _ _ _ => by rw [eqFs]) hl h2 (fun i q1 q2 => ?_) ?_ (by omega))).trans ?_
        · have hd : decide ((i : Int) < (l.length : Int)) = true := by simpa using q1
          have hz : (l[i], l2[i]) ∈ l.zip l2 := by
            have : (l.zip l2)[i]? = some (l[i], l2[i]) := by rw [List.getElem?_zip_eq_some]; exact ⟨List.getElem?_eq_getElem q1, List.getElem?_eq_getElem q2⟩
            exact List.mem_of_getElem? this
          have h5 := ih _ hz
          simp only [hd, cond_true, gi_lt q1, gi_lt q2, Option.bind_some]
          simp only at h5
          cases hx : l[i] with
          | mk _ _ _ _ _ => cases hy : l2[i] with
            | mk _ _ _ _ _ =>
              rw [hx, hy] at h5
              simp only [h5, Option.bind_some]
              cases eqF _ _ <;> rfl
        · have hd : decide ((l.length : Int) < (l.length : Int)) = false := by simp
          simp only [hd, cond_false]
        · cases eqFs l l2 <;> rfl
      · have hd : ((l.length : Int) != (l2.length : Int)) = true := by simp; omega
        simp only [hd, cond_true]; rw [eqFs_len hl]
    simp only [dEqualA v v2 h1 (show v.length < n by omega), hE, Option.bind_some]
    cases k == k2 <;> cases a == a2 <;> cases b == b2 <;> cases eqAs v v2 <;> rfl
/-! ### a filter's text -/
def valS (a : tAttr) : Str := if a.Text then 34 :: (a.S ++ [34]) else Lib.itoa a.N
def joinS (sep : Str) : List Str → Str
  | [] => []
  | [x] => x
  | x :: y :: l => x ++ (sep ++ joinS sep (y :: l))
def par (b : Bool) (s : Str) : Str := if b then 40 :: (s ++ [41]) else s
mutual
def showF : tFilter → Str
  | .mk k nm op v l => if k = 1 then joinS [32, 97, 110, 100, 32] (showL l) else if k = 2 then joinS [32, 111, 114, 32] (showL l) else if k = 3 then showN l
    else if k = 4 then nm ++ (32 :: (op ++ (32 :: showV v))) else if k = 5 then nm ++ ([32, 94, 61, 32] ++ showV v)
    else if k = 6 then nm ++ ([32, 105, 110, 32, 40] ++ (joinS [44, 32] (showL l ++ v.map valS) ++ [41])) else [116, 114, 117, 101]
def showV : List tAttr → Str
  | [] => []
  | v :: _ => valS v
def showN : List tFilter → Str
  | [] => []
  | x :: _ => [110, 111, 116, 32] ++ par (kindF x != 7 && kindF x != 3) (showF x)
def showL : List tFilter → List Str
  | [] => []
  | x :: l => par (kindF x == 1 || kindF x == 2) (showF x) :: showL l
end
theorem join_eq (sep : Str) : ∀ l : List Str, Lib.join l sep = joinS sep l
  | [] => rfl
  | [x] => by simp [Lib.join, joinS, List.intercalate]
  | x :: y :: l => by
    have := join_eq sep (y :: l)
    unfold Lib.join at this ⊢
    rw [joinS, ← this]
    simp [List.intercalate, List.intersperse]
end Go.Proofs.YtaekecbadkcggaaDoor
