/- Layer 9, plainly: what a filter holds of. -/
import Derived.Test.YtaekecbadkcggaaD09b
namespace Go.Proofs.Ytaekecbadkcggaa
open Go.Pv
set_option linter.unusedSimpArgs false
set_option linter.unusedVariables false
set_option linter.unusedSectionVars false

def cmpA (a v : tAttr) : Int := if a.Text then Lib.compareBytes a.S v.S else if a.N < v.N then -1 else if a.N > v.N then 1 else 0
def standsB (op : Str) (n : Int) : Bool :=
  bif op == [60] then decide (n < 0) else bif op == [60, 61] then decide (n ≤ 0) else bif op == [61] then n == 0 else bif op == [33, 61] then n != 0 else bif op == [62, 61] then decide (n ≥ 0) else bif op == [62] then decide (n > 0) else false
def findA (nm : Str) (l : List tAttr) : Option tAttr := l.find? fun a => a.Name == nm
def hasPre (s p : Str) : Bool := decide (p.length ≤ s.length) && s.take p.length == p
def likeA (a v : tAttr) : Bool := a.Text == v.Text && cmpA a v == 0
def leafB (kind : Int) (nm op : Str) (vals : List tAttr) (l : List tAttr) : Bool :=
  match findA nm l, vals with
  | some a, v :: _ => bif kind == 4 then (bif a.Text == v.Text then standsB op (cmpA a v) else false) else bif kind == 5 then (bif a.Text then bif v.Text then hasPre a.S v.S else false else false) else bif kind == 6 then vals.any (likeA a) else false
  | _, _ => false
mutual
def hol (l : List tAttr) : tFilter → Bool
  | .mk kind nm op vals fs => bif kind == 7 then true else bif kind == 3 then holHd l fs else bif kind == 1 then holAll l fs else bif kind == 2 then holAny l fs else leafB kind nm op vals l
def holAll (l : List tAttr) : List tFilter → Bool
  | [] => true
  | x :: r => hol l x && holAll l r
def holHd (l : List tAttr) : List tFilter → Bool
  | [] => false
  | x :: _ => !hol l x
def holAny (l : List tAttr) : List tFilter → Bool
  | [] => false
  | x :: r => hol l x || holAny l r
end
theorem holAll_eq (l : List tAttr) : ∀ fs, holAll l fs = fs.all (hol l)
  | [] => rfl
  | x :: r => by rw [holAll, holAll_eq l r]; rfl
theorem holAny_eq (l : List tAttr) : ∀ fs, holAny l fs = fs.any (hol l)
  | [] => rfl
  | x :: r => by rw [holAny, holAny_eq l r]; rfl

/-! ### the library's -/

theorem dHasPrefix (n : Nat) (s p : Str) : dstrings_HasPrefix n s p = some (hasPre s p) := by
  unfold dstrings_HasPrefix dstringslite_HasPrefix hasPre
  by_cases h : p.length ≤ s.length
  · have := gsl_nat s (i := 0) (j := p.length) (by omega) h
    simp only [Int.natCast_zero] at this
    simp [h, this]
  · simp [h]
theorem dCompareS (n : Nat) (a b : Str) : dstrings_Compare n a b = some (Lib.compareBytes a b) := rfl
theorem dCompareI (n : Nat) (a b : Int) : dcmp_Compare_int64 n a b = some (if a < b then -1 else if a > b then 1 else 0) := by
  unfold dcmp_Compare_int64 dcmp_isNaN_int64
  by_cases h : a < b <;> by_cases h2 : a > b <;> simp [h, h2]
theorem dIxF (l : List tFilter) (f : tFilter → Option Bool) (p : tFilter → Bool) (hf : ∀ x ∈ l, f x = some (p x)) (hl : l.length ≤ maxLen) {n : Nat} (hn : l.length < n) : dslices_IndexFunc_Filter n l f = some (ixI p l) := by
  unfold dslices_IndexFunc_Filter
  refine (congrArg (fun o => Option.bind o _) (ix_loop (p := p) (l := l) (fun i h => ?_) ?_ hl hn)).trans ?_
  rotate_left 2
  · unfold ixI; cases l.findIdx? p <;> rfl
  · have h1 : decide ((i : Int) < (l.length : Int)) = true := by simpa using h
    rw [h1, gi_lt h]
    have h2 := hf _ (List.getElem_mem h)
    cases hx : l[i] with
    | mk a b c d e =>
      rw [hx] at h2
      simp only [cond_true, Option.bind_some, h2]
      cases p (.mk a b c d e) <;> rfl
  · simp
theorem dIxA (l : List tAttr) (f : tAttr → Option Bool) (p : tAttr → Bool) (hf : ∀ x ∈ l, f x = some (p x)) (hl : l.length ≤ maxLen) {n : Nat} (hn : l.length < n) : dslices_IndexFunc_Attr n l f = some (ixI p l) := by
  unfold dslices_IndexFunc_Attr
  refine (congrArg (fun o => Option.bind o _) (ix_loop (p := p) (l := l) (fun i h => ?_) ?_ hl hn)).trans ?_
  rotate_left 2
  · unfold ixI; cases l.findIdx? p <;> rfl
  · have h1 : decide ((i : Int) < (l.length : Int)) = true := by simpa using h
    rw [h1, gi_lt h]
    simp only [cond_true, Option.bind_some, hf _ (List.getElem_mem h)]
    cases p l[i] <;> rfl
  · simp
theorem dCfF (l : List tFilter) (f : tFilter → Option Bool) (p : tFilter → Bool) (hf : ∀ x ∈ l, f x = some (p x)) (hl : l.length ≤ maxLen) {n : Nat} (hn : l.length < n) : dslices_ContainsFunc_Filter n l f = some (l.any p) := by
  unfold dslices_ContainsFunc_Filter; rw [dIxF l f p hf hl hn, Option.bind_some, ixI_ge]
theorem dCfA (l : List tAttr) (f : tAttr → Option Bool) (p : tAttr → Bool) (hf : ∀ x ∈ l, f x = some (p x)) (hl : l.length ≤ maxLen) {n : Nat} (hn : l.length < n) : dslices_ContainsFunc_Attr n l f = some (l.any p) := by
  unfold dslices_ContainsFunc_Attr; rw [dIxA l f p hf hl hn, Option.bind_some, ixI_ge]

/-! ### the program's -/

theorem dstands (n : Nat) (op : Str) (k : Int) : deval_stands n op k = some (standsB op k) := by
  unfold deval_stands standsB
  cases op == [60] <;> cases op == [60, 61] <;> cases op == [61] <;> cases op == [33, 61] <;> cases op == [62, 61] <;> cases op == [62] <;> rfl
theorem dcompare (n : Nat) (a v : tAttr) : deval_compare n a v = some (cmpA a v) := by
  unfold deval_compare cmpA; rw [dCompareS, dCompareI]; cases a.Text <;> simp
theorem find_ix {α : Type} (p : α → Bool) : ∀ l : List α, l.find? p = match l.findIdx? p with | some i => l[i]? | none => none
  | [] => rfl
  | x :: l => by
    rw [List.find?_cons, List.findIdx?_cons]
    cases hx : p x with
    | true => simp
    | false =>
      simp only [Bool.false_eq_true, if_false, find_ix p l]
      cases l.findIdx? p <;> simp
theorem dfind (l : List tAttr) (nm : Str) (hl : l.length ≤ maxLen) {n : Nat} (hn : l.length < n) : deval_find n l nm = some (match findA nm l with | some a => (a, true) | none => (tAttr.mk [] false 0 [], false)) := by
  unfold deval_find
  rw [dIxA l (fun x0 => deval_find_1 n x0 nm) (fun a => a.Name == nm) (fun x _ => rfl) hl hn, Option.bind_some]
  unfold findA
  rw [find_ix]
  unfold ixI
  cases h : l.findIdx? (fun a => a.Name == nm) with
  | none => rfl
  | some i =>
    obtain ⟨h3, _⟩ := List.findIdx?_eq_some_iff_getElem.1 h
    have : decide ((i : Int) < 0) = false := by simp
    simp only [this, cond_false, gi_lt h3, Option.bind_some, List.getElem?_eq_getElem h3]
theorem dleaf {kind : Int} {nm op : Str} {vals l : List tAttr} {gs : List tFilter} (hv : vals.length ≤ maxLen) (hl : l.length ≤ maxLen) {n : Nat} (hn : l.length < n) (hn2 : vals.length < n) : deval_leaf n (.mk kind nm op vals gs) l = some (leafB kind nm op vals l) := by
  unfold deval_leaf leafB
  simp only [dfind l nm hl hn, Option.bind_some]
  cases hf : findA nm l with
  | none => rfl
  | some a =>
    cases vals with
    | nil => rfl
    | cons v r =>
      have h0 : gi (v :: r) 0 = some v := rfl
      have h1 : ((((v :: r).length : Nat) : Int) == 0) = false := by simp; omega
      simp only [Bool.not_true, cond_false, h1, Option.bind_some, h0, dcompare, dstands, dHasPrefix]
      rw [dCfA (v :: r) _ (likeA a) (fun x _ => ?_) hv hn2]
      · cases kind == 4 <;> cases kind == 5 <;> cases kind == 6 <;> cases a.Text == v.Text <;> cases a.Text <;> cases v.Text <;> rfl
      · unfold deval_leaf_1 likeA
        rw [dcompare]
        cases a.Text == x.Text <;> rfl

theorem okF_mk {k : Int} {a b : Str} {v : List tAttr} {l : List tFilter} (h : ok_tFilter (.mk k a b v l)) : v.length ≤ maxLen ∧ l.length ≤ maxLen ∧ oks_tFilter l := by
  simp only [ok_tFilter] at h
  exact ⟨h.2.2.2.1.1, h.2.2.2.2.1, h.2.2.2.2.2⟩
theorem oks_mem : ∀ {l : List tFilter}, oks_tFilter l → ∀ x ∈ l, ok_tFilter x
  | [], _, _, h => by cases h
  | y :: l, h, x, hx => by
    simp only [oks_tFilter] at h
    rcases List.mem_cons.1 hx with rfl | hx
    · exact h.1
    · exact oks_mem h.2 x hx

theorem dHolds (l : List tAttr) (hl : l.length ≤ maxLen) : ∀ f : tFilter, ok_tFilter f → Ev fun n => deval_Holds n f l = some (hol l f)
  | .mk kind nm op vals fs, hf => by
    obtain ⟨h1, h2, h3⟩ := okF_mk hf
    have ih : Ev fun n => ∀ x ∈ fs, deval_Holds n x l = some (hol l x) := Ev.all fun x hx => dHolds l hl x (oks_mem h3 x hx)
    refine Ev.succ (Ev.succ ((ih.big (l.length + vals.length + fs.length + 1)).mono fun n hh => ?_))
    obtain ⟨hn, ih⟩ := hh
    have e1 : ∀ x ∈ fs, deval_Holds_1 (n + 1) x l = some (hol l x) := fun x hx => by
      have := ih x hx
      cases x; rw [deval_Holds_1]; simp only [this, Option.bind_some]
    have e2 : ∀ x ∈ fs, deval_Holds_2 (n + 1) x l = some (!hol l x) := fun x hx => by
      have := ih x hx
      cases x; rw [deval_Holds_2]; simp only [this, Option.bind_some]
    rw [deval_Holds, hol, dCfF fs _ (fun x => !hol l x) e2 h2 (by omega), dCfF fs _ (hol l) e1 h2 (by omega), dleaf h1 hl (by omega) (by omega), holAll_eq l, holAny_eq l]
    have e4 : (!fs.any fun x => !hol l x) = fs.all (hol l) := by rw [List.all_eq_not_any_not]
    simp only [Option.bind_some, e4]
    cases kind == 7 with
    | true => rfl
    | false =>
      cases kind == 3 with
      | false => cases kind == 1 <;> cases kind == 2 <;> rfl
      | true =>
        cases fs with
        | nil => rfl
        | cons x r =>
          have h0 : gi (x :: r) 0 = some x := rfl
          have := e2 x (by simp)
          have h4 : decide ((((x :: r).length : Nat) : Int) > 0) = true := by simp
          rw [h4, h0, holHd]
          cases x; simp only [cond_true, cond_false, Option.bind_some, this]

/-! ### the document's -/

theorem cmp_less : ∀ a b : Str, Op.bytesLess a b = decide (Lib.compareBytes a b < 0)
  | [], [] => rfl
  | [], _ :: _ => rfl
  | _ :: _, [] => rfl
  | x :: a, y :: b => by
    have ih := cmp_less a b
    unfold Op.bytesLess Lib.compareBytes
    by_cases h : x < y
    · simp [h]
    · by_cases h2 : y < x
      · have hne : x ≠ y := fun e => by subst e; exact h h2
        simp [h, h2, hne]
      · have he : x = y := UInt8.le_antisymm (UInt8.not_lt.1 h2) (UInt8.not_lt.1 h)
        subst he
        simp [h, ih]
theorem cmp_eq0 : ∀ a b : Str, (Lib.compareBytes a b == 0) = (a == b)
  | [], [] => rfl
  | [], _ :: _ => rfl
  | _ :: _, [] => rfl
  | x :: a, y :: b => by
    have ih := cmp_eq0 a b
    unfold Lib.compareBytes
    by_cases h : x < y
    · have hne : x ≠ y := fun e => by subst e; exact absurd h (UInt8.lt_irrefl x)
      simp [h, hne]
    · by_cases h2 : y < x
      · have hne : x ≠ y := fun e => by subst e; exact absurd h2 (UInt8.lt_irrefl x)
        simp [h, h2, hne]
      · have he : x = y := UInt8.le_antisymm (UInt8.not_lt.1 h2) (UInt8.not_lt.1 h)
        subst he
        simp only [h, if_false, ih]
        rw [Bool.eq_iff_iff]; simp
theorem cmp_more (a b : Str) : (!(Op.bytesLess a b || a == b)) = decide (Lib.compareBytes a b > 0) := by
  rw [cmp_less, ← cmp_eq0, Bool.eq_iff_iff]
  simp only [Bool.not_eq_true', Bool.or_eq_false_iff, decide_eq_false_iff_not, decide_eq_true_eq, beq_eq_false_iff_ne]
  omega
theorem cmp_more2 (a b : Str) : (!(decide (Lib.compareBytes a b < 0) || a == b)) = decide (Lib.compareBytes a b > 0) := by rw [← cmp_less]; exact cmp_more a b
theorem drstands (n : Nat) (op : Str) (k : Int) : dref06_stands n op (decide (k < 0)) (decide (k > 0)) = some (standsB op k) := by
  unfold dref06_stands standsB
  have h1 : decide (k ≤ 0) = !decide (k > 0) := by rw [Bool.eq_iff_iff]; simp
  have h2 : (k == 0) = (!decide (k < 0) && !decide (k > 0)) := by rw [Bool.eq_iff_iff]; simp; omega
  have h3 : (k != 0) = (decide (k < 0) || decide (k > 0)) := by rw [bne, h2]; simp
  have h4 : decide (k ≥ 0) = !decide (k < 0) := by rw [Bool.eq_iff_iff]; simp
  rw [h1, h2, h3, h4]
  cases op == [60] <;> cases op == [60, 61] <;> cases op == [61] <;> cases op == [33, 61] <;> cases op == [62, 61] <;> cases op == [62] <;> cases decide (k < 0) <;> cases decide (k > 0) <;> rfl
theorem drbegins (n : Nat) (s p : Str) : dref06_begins n s p = some (hasPre s p) := by
  unfold dref06_begins hasPre
  by_cases h : p.length ≤ s.length
  · have := gsl_nat s (i := 0) (j := p.length) (by omega) h
    simp only [Int.natCast_zero] at this
    have h2 : decide ((p.length : Int) > s.length) = false := by simp; omega
    rw [h2]; simp [h, this]
  · have h2 : decide ((p.length : Int) > s.length) = true := by simp; omega
    rw [h2]; simp [h]
/-- What is found from the end on. -/
def atK (p : tAttr → Bool) (l : List tAttr) (k : Nat) : Int := match (l.drop (l.length - k)).findIdx? p with
  | some j => ((l.length - k + j : Nat) : Int)
  | none => -1
theorem atK_succ (p : tAttr → Bool) (l : List tAttr) {k : Nat} (hk : k < l.length) : atK p l (k + 1) = if p (l[l.length - 1 - k]'(by omega)) then ((l.length - 1 - k : Nat) : Int) else atK p l k := by
  unfold atK
  have h1 : l.drop (l.length - (k + 1)) = l[l.length - 1 - k]'(by omega) :: l.drop (l.length - k) := by
    rw [show l.length - (k + 1) = l.length - 1 - k by omega, List.drop_eq_getElem_cons (by omega), show l.length - 1 - k + 1 = l.length - k by omega]
  rw [h1, List.findIdx?_cons]
  cases hp : p (l[l.length - 1 - k]'(by omega)) with
  | true => simp; omega
  | false =>
    simp only [Bool.false_eq_true, if_false]
    cases hf : (l.drop (l.length - k)).findIdx? p with
    | none => rfl
    | some j => simp only [Option.map_some]; congr 1; omega
theorem atK_all (p : tAttr → Bool) (l : List tAttr) : atK p l l.length = ixI p l := by
  unfold atK ixI; simp only [Nat.sub_self, List.drop_zero, Nat.zero_add]; rfl
theorem W_sub1 {i : Nat} (h : i ≤ maxLen) : W ((i : Int) - 1) = (i : Int) - 1 := W_id ⟨by omega, by unfold maxLen at h; omega⟩

theorem cmpI_lt (a b : Int) : decide ((if a < b then (-1 : Int) else if a > b then 1 else 0) < 0) = decide (a < b) := by
  by_cases h : a < b
  · simp [h]
  · by_cases h2 : a > b <;> simp [h, h2]
theorem cmpI_gt (a b : Int) : decide ((if a < b then (-1 : Int) else if a > b then 1 else 0) > 0) = decide (a > b) := by
  by_cases h : a < b
  · have : ¬ a > b := by omega
    simp [h, this]
  · by_cases h2 : a > b <;> simp [h, h2]
theorem cmpI_eq (a b : Int) : ((if a < b then (-1 : Int) else if a > b then 1 else 0) == 0) = (a == b) := by
  rw [Bool.eq_iff_iff]
  by_cases h : a < b
  · have : a ≠ b := by omega
    simp [h, this]
  · by_cases h2 : a > b
    · have : a ≠ b := by omega
      simp [h, h2, this]
    · have : a = b := by omega
      simp [this]
theorem dstandsA (n : Nat) (op : Str) (a v : tAttr) : (bif a.Text then ((dref06_stands n op (decide (Lib.compareBytes a.S v.S < 0)) (decide (Lib.compareBytes a.S v.S > 0))).bind fun x11 => some x11) else ((dref06_stands n op (decide (a.N < v.N)) (decide (a.N > v.N))).bind fun x12 => some x12)) = some (standsB op (cmpA a v)) := by
  unfold cmpA
  cases a.Text with
  | true => simp only [cond_true, drstands, Option.bind_some, if_true]
  | false =>
    simp only [cond_false, Bool.false_eq_true, if_false]
    rw [← cmpI_lt a.N v.N, ← cmpI_gt a.N v.N, drstands, Option.bind_some]
theorem dlikeA (a x : tAttr) : (bif a.Text == x.Text then (bif a.Text then (bif a.S == x.S then some true else (bif (!a.Text) then some (a.N == x.N) else some false)) else (bif (!a.Text) then some (a.N == x.N) else some false)) else some false : Option Bool) = some (likeA a x) := by
  unfold likeA cmpA
  cases ht : a.Text with
  | true => simp only [cond_true, Bool.not_true, cond_false, if_true, cmp_eq0]; cases true == x.Text <;> cases a.S == x.S <;> rfl
  | false => simp only [cond_false, Bool.not_false, cond_true, Bool.false_eq_true, if_false, cmpI_eq]; cases false == x.Text <;> rfl

theorem drHolds (l : List tAttr) (hl : l.length ≤ maxLen) : ∀ f : tFilter, ok_tFilter f → Ev fun n => dref06_Holds n f l = some (hol l f)
  | .mk kind nm op vals fs, hf => by
    obtain ⟨h1, h2, h3⟩ := okF_mk hf
    have ih : Ev fun n => ∀ x ∈ fs, dref06_Holds n x l = some (hol l x) := Ev.all fun x hx => drHolds l hl x (oks_mem h3 x hx)
    refine Ev.succ ((ih.big (l.length + vals.length + fs.length + 1)).mono fun n hh => ?_)
    obtain ⟨hn, ih⟩ := hh
    rw [dref06_Holds, hol]
    cases h7 : kind == 7 with
    | true => rfl
    | false =>
      simp only [cond_false]
      cases h30 : kind == 3 with
      | true =>
        simp only [cond_true]
        cases fs with
        | nil => rfl
        | cons x r =>
          have h0 : gi (x :: r) 0 = some x := rfl
          have := ih x (by simp)
          have h4 : ((((x :: r).length : Nat) : Int) == 0) = false := by simp; omega
          rw [h4, h0, holHd]
          cases x; simp only [cond_false, Option.bind_some, this]
      | false =>
        simp only [cond_false]
        have hx3 : (bif kind == 1 then some (kind == 1) else some (kind == 2) : Option Bool) = some (kind == 1 || kind == 2) := by cases kind == 1 <;> rfl
        rw [hx3, Option.bind_some]
        cases h12 : (kind == 1 || kind == 2) with
        | true =>
          simp only [cond_true]
          refine (congrArg (fun o => Option.bind o _) (ix_loopG (l := fs) (p := fun x => hol l x == (kind == 2)) (r := fun _ => (kind == 2)) (q := ()) (fun i => (i : Int)) (fun i h => ?_) ?_ (by omega : fs.length < n))).trans ?_
          · have hd : decide ((i : Int) < (fs.length : Int)) = true := by simpa using h
            rw [hd, gi_lt h]
            have h5 := ih _ (List.getElem_mem h)
            cases hx : fs[i] with
            | mk a b c d e =>
              rw [hx] at h5
              simp only [cond_true, Option.bind_some, h5]
              cases hq : hol l (.mk a b c d e) == (kind == 2) with
              | true => simp only [cond_true, if_true]; rw [beq_iff_eq] at hq; rw [hq]
              | false => simp only [cond_false]; rw [W_suc (by have := lt_max h2; omega)]; rfl
          · simp
          · have hk : (kind == 1) = !(kind == 2) := by
              rw [Bool.eq_iff_iff]; simp at h12 ⊢; omega
            have ha := any_ix (p := fun x => hol l x == (kind == 2)) (l := fs)
            rw [holAll_eq l, holAny_eq l, hk]
            cases hf : fs.findIdx? fun x => hol l x == (kind == 2) with
            | some i =>
              rw [hf] at ha
              simp only [kS, Option.bind_some]
              cases h20 : kind == 2 with
              | true => rw [h20] at ha; simp at ha ⊢; exact ha
              | false =>
                rw [h20] at ha; simp at ha ⊢; exact ha
            | none =>
              rw [hf] at ha
              simp only [kS, Option.bind_some]
              cases h20 : kind == 2 with
              | true => rw [h20] at ha; simp at ha ⊢; exact ha
              | false => rw [h20] at ha; simp at ha ⊢; exact ha
        | false =>
          simp only [cond_false, Bool.or_eq_false_iff] at h12 ⊢
          rw [h12.1, h12.2]
          simp only [cond_false, Option.bind_some]
          rw [W_sub1 hl]
          have hloop := loopD_traj (body := fun ((at1, i4) : Int × Int) => (bif (decide (i4 ≥ 0)) then (((gi l i4).bind fun x6 => bif (x6.Name == nm) then some i4 else some at1 : Option Int).bind fun (at4 : Int) => some (Sum.inl (at4, W (i4 - 1)))) else some (Sum.inr at1)))
            (fun k => (atK (fun a => a.Name == nm) l k, (l.length : Int) - 1 - k)) l.length (e := ixI (fun a => a.Name == nm) l) (fun k hk => ?_) ?_ n (by omega)
          rotate_left
          · have hd : decide ((l.length : Int) - 1 - k ≥ 0) = true := by simp; omega
            have he : (l.length : Int) - 1 - k = ((l.length - 1 - k : Nat) : Int) := by omega
            have hw : W (((l.length - 1 - k : Nat) : Int) - 1) = (l.length : Int) - 1 - ((k + 1 : Nat) : Int) := by rw [W_sub1 (by omega)]; omega
            simp only [hd, he, hw, cond_true, gi_lt (show l.length - 1 - k < l.length by omega), Option.bind_some, atK_succ _ l hk]
            cases (l[l.length - 1 - k]'(by omega)).Name == nm <;> rfl
          · have hd : decide ((l.length : Int) - 1 - (l.length : Int) ≥ 0) = false := by simp; omega
            simp only [hd, cond_false, atK_all]
          have h00 : ((atK (fun a => a.Name == nm) l 0, (l.length : Int) - 1 - ((0 : Nat) : Int)) : Int × Int) = (-1, (l.length : Int) - 1) := by
            unfold atK; simp
          rw [h00] at hloop
          refine (congrArg (fun o => Option.bind o _) hloop).trans ?_
          unfold leafB findA
          rw [find_ix]
          simp only [Option.bind_some]
          unfold ixI
          cases hf : l.findIdx? (fun a => a.Name == nm) with
          | none => rfl
          | some i =>
            obtain ⟨h5, _⟩ := List.findIdx?_eq_some_iff_getElem.1 hf
            have hd : decide ((i : Int) < 0) = false := by simp
            simp only [hd, cond_false, Option.bind_some, gi_lt h5, List.getElem?_eq_getElem h5]
            generalize l[i] = a
            cases vals with
            | nil => rfl
            | cons v r =>
              have h0 : gi (v :: r) 0 = some v := rfl
              have h6 : ((((v :: r).length : Nat) : Int) == 0) = false := by simp; omega
              simp only [h0, h6, cond_false, Option.bind_some, drbegins, cmp_less, cmp_more2]
              cases h4 : kind == 4 with
              | true =>
                simp only [cond_true, Option.bind_some]
                cases a.Text == v.Text with
                | false =>
                  have h40 : (kind == 5) = false := by rw [beq_iff_eq] at h4; subst h4; rfl
                  have h60 : (kind == 6) = false := by rw [beq_iff_eq] at h4; subst h4; rfl
                  have hlast := fun (s0 : Int × Str × Bool × Int × Str) (hs : s0.1 = 0) => (rfl : s0 = s0)
                  simp only [cond_false, h40, h60, Option.bind_some]
                  obtain ⟨n, rfl⟩ : ∃ m, n = m + 1 := ⟨n - 1, by omega⟩
                  refine (congrArg (fun o => Option.bind o _) (loopD_end (e := .inl ()) ?_)).trans ?_
                  · simp only [Bool.cond_self, cond_false, Option.bind_some]
                  · rfl
                | true =>
                  simp only [cond_true]
                  exact dstandsA n op a v
              | false =>
                simp only [cond_false, Option.bind_some]
                cases h5 : kind == 5 with
                | true =>
                  have h60 : (kind == 6) = false := by rw [beq_iff_eq] at h5; subst h5; rfl
                  simp only [cond_true]
                  cases a.Text <;> cases v.Text <;> simp only [cond_true, cond_false, Option.bind_some, h60]
                  all_goals
                    obtain ⟨n, rfl⟩ : ∃ m, n = m + 1 := ⟨n - 1, by omega⟩
                    refine (congrArg (fun o => Option.bind o _) (loopD_end (e := .inl ()) ?_)).trans ?_
                    · simp only [Bool.cond_self, cond_false, Option.bind_some]
                    · rfl
                | false =>
                  simp only [cond_false, Option.bind_some]
                  cases h6 : kind == 6 with
                  | false =>
                    obtain ⟨n, rfl⟩ : ∃ m, n = m + 1 := ⟨n - 1, by omega⟩
                    refine (congrArg (fun o => Option.bind o _) (loopD_end (e := .inl ()) ?_)).trans ?_
                    · simp only [Bool.cond_self, cond_false, Option.bind_some]
                    · rfl
                  | true =>
                    refine (congrArg (fun o => Option.bind o _) (ix_loopG (l := v :: r) (p := likeA a) (r := fun _ => true) (q := ())
                      (fun k => ((k : Int), match k with | 0 => (v.Name, v.Text, v.N, v.S) | j + 1 => match (v :: r)[j]? with | some x => (x.Name, x.Text, x.N, x.S) | none => ([], false, 0, []))) (fun i h => ?_) ?_ (by omega : (v :: r).length < n))).trans ?_
                    · have hd : decide ((i : Int) < (((v :: r).length : Nat) : Int)) = true := by simp only [decide_eq_true_eq]; omega
                      simp only [hd, cond_true, Option.bind_some, gi_lt h, dlikeA]
                      rw [W_suc (by have := lt_max h1; omega), List.getElem?_eq_getElem h]
                      cases likeA a (v :: r)[i] <;> rfl
                    · simp
                    · rw [any_ix]
                      cases (v :: r).findIdx? (likeA a) <;> rfl

/-! ### what bounds the inputs: an answer there is -/

theorem drcount : ∀ f : tFilter, ok_tFilter f → Ev fun n => ∀ m, ∃ r, dref06_count n f m = some r
  | .mk kind nm op vals fs, hf => by
    obtain ⟨h1, h2, h3⟩ := okF_mk hf
    have ih : Ev fun n => ∀ x ∈ fs, ∀ m, ∃ r, dref06_count n x m = some r := Ev.all fun x hx => drcount x (oks_mem h3 x hx)
    refine Ev.succ ((ih.big (vals.length + fs.length + 1)).mono fun n hh m => ?_)
    obtain ⟨hn, ih⟩ := hh
    rw [dref06_count]
    simp only [Option.bind_some]
    refine loopD_ex (fun s => ∃ i : Nat, s.2 = (i : Int) ∧ i ≤ vals.length) (fun s => vals.length - s.2.toNat) (fun _ => True) ⟨0, rfl, Nat.zero_le _⟩ (by simp; omega) ?_ fun e _ => ?_
    · rintro ⟨m1, i1⟩ ⟨i, hi, hle⟩
      simp only at hi; subst hi
      by_cases h : i < vals.length
      · have hd : decide ((i : Int) < (vals.length : Int)) = true := by simpa using h
        simp only [hd, cond_true, gi_lt h, Option.bind_some, W_suc (show i + 1 < 9223372036854775808 by have := lt_max h1; omega)]
        exact ⟨_, rfl, fun s' e => by cases e; exact ⟨⟨i + 1, rfl, h⟩, by simp only [Int.toNat_natCast]; omega⟩, fun e he => by cases he⟩
      · have hd : decide ((i : Int) < (vals.length : Int)) = false := by simp; omega
        simp only [hd, cond_false]
        exact ⟨_, rfl, (fun s' e => nomatch e), fun _ _ => trivial⟩
    · refine loopD_ex (fun s => ∃ i : Nat, s.2 = (i : Int) ∧ i ≤ fs.length) (fun s => fs.length - s.2.toNat) (fun _ => True) ⟨0, rfl, Nat.zero_le _⟩ (by simp; omega) ?_ fun e _ => ⟨e, rfl⟩
      rintro ⟨m1, i1⟩ ⟨i, hi, hle⟩
      simp only at hi; subst hi
      by_cases h : i < fs.length
      · have hd : decide ((i : Int) < (fs.length : Int)) = true := by simpa using h
        simp only [hd, cond_true, Option.bind_some]
        cases hm : decide (m1 ≥ 0) with
        | false => exact ⟨_, rfl, (fun s' e => nomatch e), fun _ _ => trivial⟩
        | true =>
          obtain ⟨r, hr⟩ := ih _ (List.getElem_mem h) m1
          simp only [cond_true, gi_lt h, Option.bind_some, W_suc (show i + 1 < 9223372036854775808 by have := lt_max h2; omega)]
          cases hx : fs[i] with
          | mk a b c d e =>
            rw [hx] at hr
            simp only [hr, Option.bind_some]
            exact ⟨_, rfl, fun s' e => by cases e; exact ⟨⟨i + 1, rfl, h⟩, by simp only [Int.toNat_natCast]; omega⟩, fun e he => by cases he⟩
      · have hd : decide ((i : Int) < (fs.length : Int)) = false := by simp; omega
        simp only [hd, cond_false, Option.bind_some]
        exact ⟨_, rfl, (fun s' e => nomatch e), fun _ _ => trivial⟩
theorem drFew (f : tFilter) (hf : ok_tFilter f) : Ev fun n => ∃ b, dref06_Few n f = some b := (drcount f hf).mono fun n h => by
  cases f
  rw [dref06_Few]
  exact bind_ex (h 5000) fun v _ => ⟨_, rfl⟩
theorem drAttrs (l : List tAttr) (hl : l.length ≤ maxLen) {n : Nat} (hn : l.length < n) : ∃ b, dref06_Attrs n l = some b := by
  unfold dref06_Attrs
  refine loopD_ex (fun s => ∃ i : Nat, s = (i : Int) ∧ i ≤ l.length) (fun s => l.length - s.toNat) (fun _ => True) ⟨0, rfl, Nat.zero_le _⟩ (by simp; omega) ?_ fun e _ => by cases e <;> exact ⟨_, rfl⟩
  rintro _ ⟨i, rfl, hle⟩
  by_cases h : i < l.length
  · have hd : decide ((i : Int) < (l.length : Int)) = true := by simpa using h
    simp only [hd, cond_true, gi_lt h, Option.bind_some, W_suc (show i + 1 < 9223372036854775808 by have := lt_max hl; omega)]
    generalize decide ((l[i].Name.length : Int) > 300) = b1
    generalize decide ((l[i].S.length : Int) > 300) = b2
    have hg : ∀ x : Int ⊕ (Unit ⊕ Bool), x = Sum.inr (Sum.inr false) ∨ x = Sum.inl (((i + 1 : Nat) : Int)) → (∀ s', x = .inl s' → (∃ i : Nat, s' = (i : Int) ∧ i ≤ l.length) ∧ l.length - s'.toNat < l.length - ((i : Int)).toNat) ∧ ∀ e, x = .inr e → True := by
      rintro x (rfl | rfl)
      · exact ⟨(fun _ e => nomatch e), fun _ _ => trivial⟩
      · exact ⟨fun s' e => by cases e; exact ⟨⟨i + 1, rfl, h⟩, by simp only [Int.toNat_natCast]; omega⟩, fun _ _ => trivial⟩
    cases b1 <;> cases b2 <;> simp only [cond_true, cond_false, Option.bind_some] <;> exact ⟨_, rfl, hg _ (by simp)⟩
  · have hd : decide ((i : Int) < (l.length : Int)) = false := by simp; omega
    simp only [hd, cond_false]
    exact ⟨_, rfl, (fun s' e => nomatch e), fun _ _ => trivial⟩
theorem up09 : Ev fun n => dlaw09_up n = some true := by
  have a1 := dHolds [tAttr.mk [97] false 4 []] (by decide) (.mk 4 [97] [60] [tAttr.mk [] false 5 []] []) (by simp [ok_tFilter, oks_tFilter, okLs, ok_tAttr, okS, okI]; decide)
  have a2 := dHolds [] (by decide) (.mk 4 [97] [60] [tAttr.mk [] false 5 []] []) (by simp [ok_tFilter, oks_tFilter, okLs, ok_tAttr, okS, okI]; decide)
  have a3 := dHolds [] (by decide) (.mk 7 [] [] [] []) (by simp [ok_tFilter, oks_tFilter, okLs, ok_tAttr, okS, okI]; decide)
  refine ((a1.and a2).and a3).mono fun n h => ?_
  unfold dlaw09_up
  rw [h.1.1, h.1.2, h.2]
  rfl
theorem EvalHolds_e (f : tFilter) (l : List tAttr) (hf : ok_tFilter f) (hl : l.length ≤ maxLen) : Ev fun n => dlaw09_EvalHolds n f l = some true := by
  refine (((((up09.and (drFew f hf)).and (dHolds l hl f hf)).and (drHolds l hl f hf)).big (l.length + 1))).mono fun n h => ?_
  obtain ⟨hn, ⟨⟨h1, b, h2⟩, h3⟩, h4⟩ := h
  obtain ⟨c, h5⟩ := drAttrs l hl (n := n) (by omega)
  cases f
  rw [dlaw09_EvalHolds, h1, h2, h5, h3, h4]
  simp only [Option.bind_some, beq_self_eq_true]
  cases b <;> cases c <;> rfl
theorem EvalHolds_c {f : tFilter} {l : List tAttr} (hf : ok_tFilter f) (hl : okLs ok_tAttr l) : PCall Try.prog 5 [.agg (c_tFilter f), .sl (l.map c_tAttr)] (· = .bool true) := by
  obtain ⟨n, h⟩ := (EvalHolds_e f l hf hl.1).get
  exact dlaw09_EvalHolds_l h
end Go.Proofs.Ytaekecbadkcggaa
