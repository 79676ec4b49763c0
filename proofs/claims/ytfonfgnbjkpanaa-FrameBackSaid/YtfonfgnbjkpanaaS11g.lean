/- Contracts, printed by a program of this session's. -/
import Derived.Test.YtfonfgnbjkpanaaS11f
namespace Go.Proofs.Ytfonfgnbjkpanaa
open Go.Pv
set_option maxRecDepth 100000
set_option maxHeartbeats 4000000
set_option linter.unusedSimpArgs false
set_option linter.unusedVariables false
set_option linter.unusedSectionVars false

theorem va_eq' {P : Program} [Tab P] {N n0 : Nat} {s : St} {op : Op} {v v' : AV} (h : ValAt P N n0 s op v) (e : v = v') : ValAt P N n0 s op v' := e ▸ h
def catP (l : List Bs) (i : Nat) : Bs := ((l.take i).map putL).flatten
def okP (l : List Bs) (i : Nat) : Prop := i ≤ l.length ∧ ∀ j, j < i → ∀ h : j < l.length, (l[j]'h).length ≤ 4000
theorem catP_succ {l : List Bs} {i : Nat} (h : i < l.length) : catP l (i + 1) = catP l i ++ putL l[i] := by
  unfold catP; rw [List.take_add_one, List.getElem?_eq_getElem h, List.map_append, List.flatten_append]; simp
theorem putL_len (b : Bs) : (putL b).length = b.length + 2 := by simp [putL]
theorem okP_step {l : List Bs} {i : Nat} (h : okP l i) (hl : i < l.length) (hc : (l[i]).length ≤ 4000) : okP l (i + 1) :=
  ⟨hl, fun j hj hj' => by
    by_cases e : j = i
    · subst e; exact hc
    · exact h.2 j (by omega) hj'⟩
theorem okP_len {l : List Bs} : ∀ {i : Nat}, okP l i → (catP l i).length ≤ 4002 * i
  | 0, _ => by simp [catP]
  | i + 1, h => by
    have h0 : i < l.length := h.1
    rw [catP_succ h0]
    have := okP_len (i := i) ⟨by omega, fun j hj hl => h.2 j (by omega) hl⟩
    have h2 := h.2 i (by omega) h0
    rw [List.length_append, putL_len]; omega
theorem parse_put {b : Bs} (h : b.length ≤ 4000) (r : Bs) : parse (putL b ++ r) = (b :: (parse r).1, (parse r).2) := by
  have hn : num2 (putL b ++ r) = b.length := by
    simp only [putL, List.cons_append, num2, UInt8.toNat_ofNat']
    omega
  have hl : (putL b ++ r).length = b.length + 2 + r.length := by rw [List.length_append, putL_len]
  rw [parse_step (by omega) (by omega) (by omega), hn]
  have e1 : ((putL b ++ r).take (2 + b.length)).drop 2 = b := by
    have : putL b ++ r = UInt8.ofNat (b.length / 256) :: UInt8.ofNat (b.length % 256) :: (b ++ r) := rfl
    rw [this, Nat.add_comm]; simp
  have e2 : (putL b ++ r).drop (2 + b.length) = r := by
    have : putL b ++ r = UInt8.ofNat (b.length / 256) :: UInt8.ofNat (b.length % 256) :: (b ++ r) := rfl
    rw [this, Nat.add_comm]; simp
  rw [e1, e2]
theorem parse_all : ∀ (l : List Bs), (∀ b ∈ l, b.length ≤ 4000) → parse (l.map putL).flatten = (l, [], false)
  | [], _ => by simp [parse_short]
  | b :: l, h => by
    rw [List.map_cons, List.flatten_cons, parse_put (h b (by simp)), parse_all l fun c hc => h c (by simp [hc])]
theorem okP_all {l : List Bs} (h : okP l l.length) : parse (catP l l.length) = (l, [], false) := by
  unfold catP; rw [List.take_length]
  refine parse_all l fun b hb => ?_
  obtain ⟨i, hi, rfl⟩ := List.getElem_of_mem hb
  exact h.2 i hi hi
/-- A beginning of what is whole is not bad. -/
theorem pre_ok {A : Bs} {l : List Bs} (h : parse A = (l, [], false)) (k : Nat) : (parse (A.take k)).2.2 = false := by
  cases hb : (parse (A.take k)).2.2 with
  | false => rfl
  | true =>
    have := (parse_app _ (A.take k) (A.drop k) (Nat.le_refl _)).1 hb
    rw [List.take_append_drop, h] at this
    simp at this
theorem pre_feed {A : Bs} {l : List Bs} (h : parse A = (l, [], false)) (k n : Nat) : feedB false (parse (A.take k)).2.1 ((A.drop k).take n) = false ∧
    feedR false (parse (A.take k)).2.1 ((A.drop k).take n) = (parse (A.take (k + n))).2.1 ∧ (parse (A.take (k + n))).1 = (parse (A.take k)).1 ++ feedO false (parse (A.take k)).2.1 ((A.drop k).take n) := by
  have h1 := (parse_app _ (A.take k) ((A.drop k).take n) (Nat.le_refl _)).2 (pre_ok h k)
  have e : A.take k ++ (A.drop k).take n = A.take (k + n) := by rw [List.take_add]
  rw [e] at h1
  have h2 := pre_ok h (k + n)
  rw [h1] at h2
  refine ⟨?_, ?_, ?_⟩
  · simpa [feedB] using h2
  · rw [h1]; simp [feedR]
  · rw [h1]; simp [feedO]
def zR (l : List Int) : List (List AV) := l.map fun z => [.int .i64 z]
theorem zR_plain (l : List Int) : Plain 1 (zR l) := Plain.map (f := fun z : Int => [AV.int .i64 z]) (fun _ => ⟨rfl, rfl, rfl⟩) l
theorem zR_length (l : List Int) : (zR l).length = l.length := by simp [zR]
theorem zR_get {l : List Int} {i : Nat} (h : i < l.length) : (zR l)[((i : Int)).toNat]? = some [.int .i64 (l[i]'h)] := by simp [zR, h]
theorem le20 {l : List Bs} (h : decide (((nR l).length : Int) > 20) = false) : l.length ≤ 20 := by rw [nR_length] at h; simp at h; omega
theorem le100 {l : List Int} (h : decide (((zR l).length : Int) > 100) = false) : l.length ≤ 100 := by rw [zR_length] at h; simp at h; omega
theorem le4000 {b : Bs} (h : decide (((bR b).length : Int) > 4000) = false) : b.length ≤ 4000 := by rw [bR_length] at h; simp at h; omega
theorem gt4000 {b : Bs} (h : decide (((bR b).length : Int) > 4000) = true) : putB b = true := by rw [bR_length] at h; simp [putB] at *; omega
def pT (b : Bs) : Bool → AV
  | true => .tup [.sl [], .iface 47 (.int .i64 5)]
  | false => .tup [.sl (bR (putL b)), .nilI]
theorem put_k {b : Bs} {p : Bool} (h : putB b = p) : PCall Try.prog 45 [.sl (bR b)] (· = pT b p) := by
  have := put_c (l := b)
  unfold putT at this
  subst h
  cases hb : putB b <;> rw [hb] at this <;> exact this
theorem cut_nat {z : Int} {b : Bs} (h0 : decide (z ≥ 0) = true) (h1 : decide (z < ((bR b).length : Int)) = true) : ∃ n : Nat, z = (n : Int) ∧ n ≤ b.length := by
  rw [bR_length] at h1; simp at h0 h1
  exact ⟨z.toNat, by omega, by omega⟩
theorem put_ok {b : Bs} (h : putB b = false) : b.length ≤ 4000 := by simp [putB] at h; omega
theorem put_not {b : Bs} (h : putB b = false) (k : decide (((bR b).length : Int) > 4000) = true) : False := by rw [gt4000 k] at h; cases h
theorem put_bad {b : Bs} (h : putB b = true) (k : decide (((bR b).length : Int) > 4000) = false) : False := by have := le4000 k; simp [putB] at h; omega
def backI (l : List Bs) (cuts : List Int) (p : Nat × Nat) : Prop := p.1 ≤ cuts.length + 1 ∧ p.2 ≤ (catP l l.length).length ∧ (p.1 = cuts.length + 1 → p.2 = (catP l l.length).length)
theorem back_a {l : List Bs} {cuts : List Int} {p : Nat × Nat} {n : Nat} (h : backI l cuts p) (hi : p.1 < cuts.length) (hn : n ≤ ((catP l l.length).drop p.2).length) : backI l cuts (p.1 + 1, p.2 + n) := by
  obtain ⟨h1, h2, h3⟩ := h
  rw [List.length_drop] at hn
  exact ⟨by show p.1 + 1 ≤ _; omega, by show p.2 + n ≤ _; omega, fun e => by simp at e; omega⟩
theorem back_b {l : List Bs} {cuts : List Int} {p : Nat × Nat} {n : Nat} (h : backI l cuts p) (hi : p.1 ≤ cuts.length) (hn : (bR ((catP l l.length).drop p.2)).length = n) : backI l cuts (p.1 + 1, p.2 + n) := by
  obtain ⟨h1, h2, h3⟩ := h
  rw [bR_length, List.length_drop] at hn
  exact ⟨by show p.1 + 1 ≤ _; omega, by show p.2 + n ≤ _; omega, fun e => by show p.2 + n = _; omega⟩
theorem sub0 (b : Bs) (n : Nat) : ((bR b).take n).drop 0 = bR (b.take n) := by rw [bR_take]; rfl
theorem subT (b : Bs) (n : Nat) : ((bR b).take (bR b).length).drop n = bR (b.drop n) := by rw [List.take_length, bR_drop]
theorem whole_b {a x b : List Bs} (hl : b.length ≤ maxLen) (h : b = a) : PCall Try.prog 42 [.sl (nR a), .sl (nR b)] (· = .bool true) := by
  subst h
  exact (whole_c hl).mono fun r hr => by rw [hr]; simp
theorem leW {i : Nat} {l : List Int} (h : decide ((i : Int) ≤ ((zR l).length : Int)) = true) : i ≤ l.length := by rw [zR_length] at h; simpa using h
theorem nleW {i : Nat} {l : List Int} (h : decide ((i : Int) ≤ ((zR l).length : Int)) = false) : ¬ i ≤ l.length := by rw [zR_length] at h; simpa using h
theorem ltW {i : Nat} {l : List Int} (h : decide ((i : Int) < ((zR l).length : Int)) = true) : i < l.length := by rw [zR_length] at h; simpa using h
theorem code_2 {i : Nat} (h : i ≤ 100000) : IntKind.wrap .i64 ((i : Int) + 1) = ((i + 1 : Nat) : Int) := code_big h
theorem back_end {l : List Bs} {cuts : List Int} {p : Nat × Nat} (h : backI l cuts p) (hn : ¬ p.1 ≤ cuts.length) (hA : parse (catP l l.length) = (l, [], false)) : (parse ((catP l l.length).take p.2)).1 = l ∧ (parse ((catP l l.length).take p.2)).2.1 = [] := by
  have := h.2.2 (by have := h.1; omega)
  rw [this, List.take_length, hA]; exact ⟨rfl, rfl⟩
theorem nlt_cuts {i : Nat} {l : List Int} (h : decide ((i : Int) < ((zR l).length : Int)) = false) : ¬ i < l.length := by rw [zR_length] at h; simpa using h

section
attribute [local irreducible] awp aops DP PCall ACall Decidable.decide
/-- `plover/ploverlaw11.FrameBack` -/
theorem FrameBack_c {l : List Bs} {cuts : List Int} (hl : l.length ≤ maxLen) (hc_ : cuts.length ≤ maxLen) : PCall Try.prog 9 [.sl (nR l), .sl (zR cuts)] (· = .bool (true)) := by
  refine pcall_body Try.func9 rfl (by kernel_rfl) (by rfl) ?_
  refine awp_seq ?_
  refine awp_region ?_
  refine rv rfl rfl (?_)
  refine rn ?_
  refine then_normal ?_
  refine awp_seq ?_
  refine awp_region ?_
  refine rc1 rfl rfl rfl up11_c (?_)
  refine rv rfl rfl (?_)
  refine rn ?_
  refine then_normal ?_
  refine awp_seq ?_
  refine awp_region ?_
  refine rh [] rfl rfl new_c rfl rfl rfl (by repeat (first | exact trivial | refine ⟨⟨⟨_, rfl, .inl rfl⟩, rfl, rfl⟩, ?_⟩ | refine ⟨⟨⟨_, rfl, .inr rfl⟩, rfl, rfl⟩, ?_⟩)) (by repeat (first | exact trivial | refine ⟨⟨⟨_, rfl, by first | exact .row | exact .ren rfl⟩, rfl⟩, ?_⟩)) ?_; rintro _ _ _ _ ⟨rfl, rfl, rfl, rfl⟩; refine as1 rfl ?_; refine ae rfl rfl rfl ?_
  refine rv rfl rfl (?_)
  refine rn ?_
  refine then_normal ?_
  refine awp_seq ?_
  refine awp_seq ?_
  refine awp_region ?_
  refine rv rfl rfl (?_)
  refine rv rfl rfl (?_)
  refine rv rfl rfl (?_)
  (first | refine gy rfl rfl rfl (rv rfl rfl (?_)) | refine gn rfl rfl rfl rfl rfl ?_ | refine gu rfl rfl rfl rfl ?_ | refine gs rfl rfl rfl rfl rfl (fun hg => rv rfl rfl (?_)) (fun hg => ?_)) <;> (
  (first | refine gy rfl rfl rfl (rv rfl rfl (?_)) | refine gn rfl rfl rfl rfl rfl ?_ | refine gu rfl rfl rfl rfl ?_ | refine gs rfl rfl rfl rfl rfl (fun hg => rv rfl rfl (?_)) (fun hg => ?_)) <;> (
  (first | refine gy rfl rfl rfl (rv rfl rfl (?_)) | refine gn rfl rfl rfl rfl rfl ?_ | refine gu rfl rfl rfl rfl ?_ | refine gs rfl rfl rfl rfl rfl (fun hg => rv rfl rfl (?_)) (fun hg => ?_)) <;> (
  refine rv rfl rfl (?_)
  refine rv rfl rfl (?_)
  (first | refine gy rfl rfl rfl (rv rfl rfl (?_)) | refine gn rfl rfl rfl rfl rfl ?_ | refine gu rfl rfl rfl rfl ?_ | refine gs rfl rfl rfl rfl rfl (fun hg => rv rfl rfl (?_)) (fun hg => ?_)) <;> (
  (first | refine gy rfl rfl rfl (rv rfl rfl (?_)) | refine gn rfl rfl rfl rfl rfl ?_ | refine gu rfl rfl rfl rfl ?_ | refine gs rfl rfl rfl rfl rfl (fun hg => rv rfl rfl (?_)) (fun hg => ?_)) <;> (
  (first | refine gy rfl rfl rfl (rv rfl rfl (?_)) | refine gn rfl rfl rfl rfl rfl ?_ | refine gu rfl rfl rfl rfl ?_ | refine gs rfl rfl rfl rfl rfl (fun hg => rv rfl rfl (?_)) (fun hg => ?_)) <;> (
  refine rv rfl rfl (?_)
  refine rn ?_
  refine then_normal ?_
  refine cs_ rfl (fun hc => ?_) (fun hc => ?_)
  · first
    | (cases hc; done)
    | (
      refine awp_seq ?_
      refine awp_region ?_
      refine rv rfl rfl (?_)
      refine rv rfl rfl (?_)
      (first | refine gy rfl rfl rfl (rv rfl rfl (?_)) | refine gn rfl rfl rfl rfl rfl ?_ | refine gu rfl rfl rfl rfl ?_ | refine gs rfl rfl rfl rfl rfl (fun hg => rv rfl rfl (?_)) (fun hg => ?_)) <;> (
      (first | refine gy rfl rfl rfl (rv rfl rfl (?_)) | refine gn rfl rfl rfl rfl rfl ?_ | refine gu rfl rfl rfl rfl ?_ | refine gs rfl rfl rfl rfl rfl (fun hg => rv rfl rfl (?_)) (fun hg => ?_)) <;> (
      refine rv rfl rfl (?_)
      refine rv rfl rfl (?_)
      refine rn ?_
      refine then_normal ?_
      refine awp_ret ?_
      repeat (first | refine then_ret ?_ | refine inBlock_ret ?_)
      refine rr rfl rfl ?_
      first | rfl | (simp; done) | (exfalso; simp_all; done) | (trace_state; done))))
  · first
    | (cases hc; done)
    | (
      refine awp_skip ?_
      refine then_normal ?_
      refine awp_seq ?_
      (have h20 := le20 (by assumption); have h100 := le100 (by assumption)) <;> (
      refine awp_region ?_
      refine rv rfl rfl (?_)
      refine rn ?_
      refine then_normal ?_
      refine awp_seq ?_
      refine awp_seq ?_
      refine awp_region ?_
      refine rv rfl rfl (?_)
      refine rn ?_
      refine then_normal ?_
      refine awp_block ?_
      refine awp_loopR (ι := Nat) (fun i => ⟨[(0, .sl (nR l)), (1, .sl (zR cuts)), (5, .bool true), (6, .ptr 0 0), (7, .sl (bR (catP l i))), (8, .int .i64 (i : Int))], [(0, 0, .own 1), (0, 1, .bool false)], [(1, .row 1 (bR []))], 2⟩) (fun i => okP l i) (fun i => l.length - i) (0) (⟨Nat.zero_le _, fun j hj => by omega⟩) ⟨[0, 1], rfl, ?_⟩ (fun i hi => ?_)
      · refine ⟨rfl, rfl, ?_, ?_, ?_⟩
        · refine ⟨⟨?_, rfl⟩, ?_⟩
          · first | exact .inl rfl | exact .inr rfl | (refine .inl ?_; (first | refine ei ?_ | refine eb ?_ | refine esl ?_ | refine estr ?_ | skip); first | exact W_succ hlt hl | (rw [catP_succ hlt]; simp [bR]; done) | (simp [catP, bR]; done)) | (refine .inr ?_; (first | refine ei ?_ | refine eb ?_ | refine esl ?_ | refine estr ?_ | skip); first | exact W_succ hlt hl | (rw [catP_succ hlt]; simp [bR]; done) | (simp [catP, bR]; done))
          refine ⟨⟨?_, rfl⟩, ?_⟩
          · first | exact .inl rfl | exact .inr rfl | (refine .inl ?_; (first | refine ei ?_ | refine eb ?_ | refine esl ?_ | refine estr ?_ | skip); first | exact W_succ hlt hl | (rw [catP_succ hlt]; simp [bR]; done) | (simp [catP, bR]; done)) | (refine .inr ?_; (first | refine ei ?_ | refine eb ?_ | refine esl ?_ | refine estr ?_ | skip); first | exact W_succ hlt hl | (rw [catP_succ hlt]; simp [bR]; done) | (simp [catP, bR]; done))
          refine ⟨⟨?_, rfl⟩, ?_⟩
          · first | exact .inl rfl | exact .inr rfl | (refine .inl ?_; (first | refine ei ?_ | refine eb ?_ | refine esl ?_ | refine estr ?_ | skip); first | exact W_succ hlt hl | (rw [catP_succ hlt]; simp [bR]; done) | (simp [catP, bR]; done)) | (refine .inr ?_; (first | refine ei ?_ | refine eb ?_ | refine esl ?_ | refine estr ?_ | skip); first | exact W_succ hlt hl | (rw [catP_succ hlt]; simp [bR]; done) | (simp [catP, bR]; done))
          refine ⟨⟨?_, rfl⟩, ?_⟩
          · first | exact .inl rfl | exact .inr rfl | (refine .inl ?_; (first | refine ei ?_ | refine eb ?_ | refine esl ?_ | refine estr ?_ | skip); first | exact W_succ hlt hl | (rw [catP_succ hlt]; simp [bR]; done) | (simp [catP, bR]; done)) | (refine .inr ?_; (first | refine ei ?_ | refine eb ?_ | refine esl ?_ | refine estr ?_ | skip); first | exact W_succ hlt hl | (rw [catP_succ hlt]; simp [bR]; done) | (simp [catP, bR]; done))
          refine ⟨⟨?_, rfl⟩, ?_⟩
          · first | exact .inl rfl | exact .inr rfl | (refine .inl ?_; (first | refine ei ?_ | refine eb ?_ | refine esl ?_ | refine estr ?_ | skip); first | exact W_succ hlt hl | (rw [catP_succ hlt]; simp [bR]; done) | (simp [catP, bR]; done)) | (refine .inr ?_; (first | refine ei ?_ | refine eb ?_ | refine esl ?_ | refine estr ?_ | skip); first | exact W_succ hlt hl | (rw [catP_succ hlt]; simp [bR]; done) | (simp [catP, bR]; done))
          refine ⟨⟨?_, rfl⟩, ?_⟩
          · first | exact .inl rfl | exact .inr rfl | (refine .inl ?_; (first | refine ei ?_ | refine eb ?_ | refine esl ?_ | refine estr ?_ | skip); first | exact W_succ hlt hl | (rw [catP_succ hlt]; simp [bR]; done) | (simp [catP, bR]; done)) | (refine .inr ?_; (first | refine ei ?_ | refine eb ?_ | refine esl ?_ | refine estr ?_ | skip); first | exact W_succ hlt hl | (rw [catP_succ hlt]; simp [bR]; done) | (simp [catP, bR]; done))
          exact trivial
        · refine ⟨⟨?_, rfl, rfl⟩, ?_⟩
          · first | exact ⟨_, rfl, .inl rfl⟩ | exact ⟨_, rfl, .inr rfl⟩ | (refine ⟨_, rfl, .inl ?_⟩; (first | refine ei ?_ | refine eb ?_ | refine esl ?_ | refine estr ?_ | skip); first | exact W_succ hlt hl | (rw [catP_succ hlt]; simp [bR]; done) | (simp [catP, bR]; done)) | (refine ⟨_, rfl, .inr ?_⟩; (first | refine ei ?_ | refine eb ?_ | refine esl ?_ | refine estr ?_ | skip); first | exact W_succ hlt hl | (rw [catP_succ hlt]; simp [bR]; done) | (simp [catP, bR]; done))
          refine ⟨⟨?_, rfl, rfl⟩, ?_⟩
          · first | exact ⟨_, rfl, .inl rfl⟩ | exact ⟨_, rfl, .inr rfl⟩ | (refine ⟨_, rfl, .inl ?_⟩; (first | refine ei ?_ | refine eb ?_ | refine esl ?_ | refine estr ?_ | skip); first | exact W_succ hlt hl | (rw [catP_succ hlt]; simp [bR]; done) | (simp [catP, bR]; done)) | (refine ⟨_, rfl, .inr ?_⟩; (first | refine ei ?_ | refine eb ?_ | refine esl ?_ | refine estr ?_ | skip); first | exact W_succ hlt hl | (rw [catP_succ hlt]; simp [bR]; done) | (simp [catP, bR]; done))
          exact trivial
        · refine ⟨orow rfl ?_ rfl, ?_⟩
          · first | rfl | (first | exact W_succ hlt hl | (rw [catP_succ hlt]; simp [bR]; done) | (simp [catP, bR]; done))
          exact trivial
      refine awp_seq ?_
      refine awp_seq ?_
      refine awp_region ?_
      refine rv rfl rfl (?_)
      refine rv rfl rfl (?_)
      refine rv rfl rfl (?_)
      refine rv rfl rfl (?_)
      refine rn ?_
      refine then_normal ?_
      refine cs_ rfl (fun hc => ?_) (fun hc => ?_)
      · first
        | (cases hc; done)
        | (
          refine awp_skip ?_
          refine then_normal ?_
          refine awp_seq ?_
          refine awp_block ?_
          refine awp_seq ?_
          (have hlt : i < l.length := by { have := lt_of_dec (by assumption); rwa [nR_length] at this }; cases hpb : putB l[i]) <;> (
          refine awp_region ?_
          refine rv rfl rfl (?_)
          refine rv rfl rfl (?_)
          refine ri rfl rfl rfl rfl rfl rfl (Int.natCast_nonneg _) (nR_get hlt) (nR_plain _).wide (?_)
          refine rv rfl rfl (?_)
          refine rc1 rfl rfl rfl (put_k hpb) (?_)
          refine rv rfl rfl (?_)
          refine rv rfl rfl (?_)
          refine rv rfl rfl (?_)
          refine rv rfl rfl (?_)
          refine rv rfl rfl (?_)
          refine rn ?_
          refine then_normal ?_
          refine awp_seq ?_
          refine awp_seq ?_
          refine awp_region ?_
          refine rv rfl rfl (?_)
          refine rv rfl rfl (?_)
          refine ri rfl rfl rfl rfl rfl rfl (Int.natCast_nonneg _) (nR_get hlt) (nR_plain _).wide (?_)
          refine rv rfl rfl (?_)
          refine rv rfl rfl (?_)
          refine rv rfl rfl (?_)
          refine rn ?_
          refine then_normal ?_
          refine cs_ rfl (fun hc => ?_) (fun hc => ?_)
          · first
            | (cases hc; done)
            | (
              refine awp_seq ?_
              (try (exfalso; exact put_not hpb (by assumption))) <;> (
              refine awp_region ?_
              refine rv rfl rfl (?_)
              refine rv rfl rfl (?_)
              (first | refine gy rfl rfl rfl (rv rfl rfl (?_)) | refine gn rfl rfl rfl rfl rfl ?_ | refine gu rfl rfl rfl rfl ?_ | refine gs rfl rfl rfl rfl rfl (fun hg => rv rfl rfl (?_)) (fun hg => ?_)) <;> (
              (first | refine gy rfl rfl rfl (rv rfl rfl (?_)) | refine gn rfl rfl rfl rfl rfl ?_ | refine gu rfl rfl rfl rfl ?_ | refine gs rfl rfl rfl rfl rfl (fun hg => rv rfl rfl (?_)) (fun hg => ?_)) <;> (
              (first | refine gy rfl rfl rfl (rv rfl rfl (?_)) | refine gn rfl rfl rfl rfl rfl ?_ | refine gu rfl rfl rfl rfl ?_ | refine gs rfl rfl rfl rfl rfl (fun hg => rv rfl rfl (?_)) (fun hg => ?_)) <;> (
              refine rv rfl rfl (?_)
              refine rv rfl rfl (?_)
              (first | refine gy rfl rfl rfl (rv rfl rfl (?_)) | refine gn rfl rfl rfl rfl rfl ?_ | refine gu rfl rfl rfl rfl ?_ | refine gs rfl rfl rfl rfl rfl (fun hg => rv rfl rfl (?_)) (fun hg => ?_)) <;> (
              (first | refine gy rfl rfl rfl (rv rfl rfl (?_)) | refine gn rfl rfl rfl rfl rfl ?_ | refine gu rfl rfl rfl rfl ?_ | refine gs rfl rfl rfl rfl rfl (fun hg => rv rfl rfl (?_)) (fun hg => ?_)) <;> (
              (first | refine gy rfl rfl rfl (rv rfl rfl (?_)) | refine gn rfl rfl rfl rfl rfl ?_ | refine gu rfl rfl rfl rfl ?_ | refine gs rfl rfl rfl rfl rfl (fun hg => rv rfl rfl (?_)) (fun hg => ?_)) <;> (
              refine rv rfl rfl (?_)
              refine rv rfl rfl (?_)
              refine rn ?_
              refine then_normal ?_
              refine awp_ret ?_
              repeat (first | refine then_ret ?_ | refine inBlock_ret ?_)
              refine rr rfl rfl ?_
              first | rfl | (simp; done) | (exfalso; simp_all; done) | (trace_state; done)))))))))
          · first
            | (cases hc; done)
            | (
              refine awp_skip ?_
              refine then_normal ?_
              refine awp_seq ?_
              refine awp_seq ?_
              (try (exfalso; exact put_bad hpb (by assumption))) <;> (
              refine awp_region ?_
              refine rv rfl rfl (?_)
              refine rv rfl rfl (?_)
              refine rn ?_
              refine then_normal ?_
              refine cs_ rfl (fun hc => ?_) (fun hc => ?_)
              · first
                | (cases hc; done)
                | (
                  refine awp_seq ?_
                  refine awp_region ?_
                  refine rv rfl rfl (?_)
                  refine rn ?_
                  refine then_normal ?_
                  refine awp_ret ?_
                  repeat (first | refine then_ret ?_ | refine inBlock_ret ?_)
                  refine rr rfl rfl ?_
                  first | rfl | (simp; done) | (exfalso; simp_all; done) | (trace_state; done))
              · first
                | (cases hc; done)
                | (
                  refine awp_skip ?_
                  refine then_normal ?_
                  (have hs := put_ok hpb; have hcl := okP_len hi) <;> (
                  refine awp_region ?_
                  refine rbs false rfl rfl rfl rfl rfl rfl rfl rfl rfl rfl (?_)
                  refine rv rfl rfl (?_)
                  refine rap false rfl rfl rfl rfl rfl rfl rfl (.own rfl rfl) (.sl rfl rfl rfl) (bR_plain _).wide (bR_plain _).ones (by show (_ + _) * 1 ≤ _; rw [bR_length]; simp; omega) rfl (?_)
                  refine rv rfl rfl (?_)
                  refine rap false rfl rfl rfl rfl rfl rfl rfl (.own rfl rfl) (.sl rfl rfl rfl) (bR_plain _).wide (bR_plain _).ones (by show (_ + _) * 1 ≤ _; rw [List.nil_append, bR_length, bR_length, putL_len]; omega) rfl (?_)
                  refine rv rfl rfl (?_)
                  refine rn ?_
                  refine inBlock_normal ?_
                  refine then_normal ?_
                  refine awp_region ?_
                  refine rv rfl rfl (?_)
                  refine rv rfl rfl (?_)
                  refine rv rfl rfl (?_)
                  refine rn ?_
                  refine then_normal ?_
                  refine ⟨i + 1, okP_step hi hlt hs, by omega, [0, 1], rfl, ?_⟩
                  refine ⟨rfl, rfl, ?_, ?_, ?_⟩
                  · refine ⟨⟨?_, rfl⟩, ?_⟩
                    · first | exact .inl rfl | exact .inr rfl | (refine .inl ?_; (first | refine ei ?_ | refine eb ?_ | refine esl ?_ | refine estr ?_ | skip); first | exact W_succ hlt hl | (rw [catP_succ hlt]; simp [bR]; done) | (simp [catP, bR]; done)) | (refine .inr ?_; (first | refine ei ?_ | refine eb ?_ | refine esl ?_ | refine estr ?_ | skip); first | exact W_succ hlt hl | (rw [catP_succ hlt]; simp [bR]; done) | (simp [catP, bR]; done))
                    refine ⟨⟨?_, rfl⟩, ?_⟩
                    · first | exact .inl rfl | exact .inr rfl | (refine .inl ?_; (first | refine ei ?_ | refine eb ?_ | refine esl ?_ | refine estr ?_ | skip); first | exact W_succ hlt hl | (rw [catP_succ hlt]; simp [bR]; done) | (simp [catP, bR]; done)) | (refine .inr ?_; (first | refine ei ?_ | refine eb ?_ | refine esl ?_ | refine estr ?_ | skip); first | exact W_succ hlt hl | (rw [catP_succ hlt]; simp [bR]; done) | (simp [catP, bR]; done))
                    refine ⟨⟨?_, rfl⟩, ?_⟩
                    · first | exact .inl rfl | exact .inr rfl | (refine .inl ?_; (first | refine ei ?_ | refine eb ?_ | refine esl ?_ | refine estr ?_ | skip); first | exact W_succ hlt hl | (rw [catP_succ hlt]; simp [bR]; done) | (simp [catP, bR]; done)) | (refine .inr ?_; (first | refine ei ?_ | refine eb ?_ | refine esl ?_ | refine estr ?_ | skip); first | exact W_succ hlt hl | (rw [catP_succ hlt]; simp [bR]; done) | (simp [catP, bR]; done))
                    refine ⟨⟨?_, rfl⟩, ?_⟩
                    · first | exact .inl rfl | exact .inr rfl | (refine .inl ?_; (first | refine ei ?_ | refine eb ?_ | refine esl ?_ | refine estr ?_ | skip); first | exact W_succ hlt hl | (rw [catP_succ hlt]; simp [bR]; done) | (simp [catP, bR]; done)) | (refine .inr ?_; (first | refine ei ?_ | refine eb ?_ | refine esl ?_ | refine estr ?_ | skip); first | exact W_succ hlt hl | (rw [catP_succ hlt]; simp [bR]; done) | (simp [catP, bR]; done))
                    refine ⟨⟨?_, rfl⟩, ?_⟩
                    · first | exact .inl rfl | exact .inr rfl | (refine .inl ?_; (first | refine ei ?_ | refine eb ?_ | refine esl ?_ | refine estr ?_ | skip); first | exact W_succ hlt hl | (rw [catP_succ hlt]; simp [bR]; done) | (simp [catP, bR]; done)) | (refine .inr ?_; (first | refine ei ?_ | refine eb ?_ | refine esl ?_ | refine estr ?_ | skip); first | exact W_succ hlt hl | (rw [catP_succ hlt]; simp [bR]; done) | (simp [catP, bR]; done))
                    refine ⟨⟨?_, rfl⟩, ?_⟩
                    · first | exact .inl rfl | exact .inr rfl | (refine .inl ?_; (first | refine ei ?_ | refine eb ?_ | refine esl ?_ | refine estr ?_ | skip); first | exact W_succ hlt hl | (rw [catP_succ hlt]; simp [bR]; done) | (simp [catP, bR]; done)) | (refine .inr ?_; (first | refine ei ?_ | refine eb ?_ | refine esl ?_ | refine estr ?_ | skip); first | exact W_succ hlt hl | (rw [catP_succ hlt]; simp [bR]; done) | (simp [catP, bR]; done))
                    exact trivial
                  · refine ⟨⟨?_, rfl, rfl⟩, ?_⟩
                    · first | exact ⟨_, rfl, .inl rfl⟩ | exact ⟨_, rfl, .inr rfl⟩ | (refine ⟨_, rfl, .inl ?_⟩; (first | refine ei ?_ | refine eb ?_ | refine esl ?_ | refine estr ?_ | skip); first | exact W_succ hlt hl | (rw [catP_succ hlt]; simp [bR]; done) | (simp [catP, bR]; done)) | (refine ⟨_, rfl, .inr ?_⟩; (first | refine ei ?_ | refine eb ?_ | refine esl ?_ | refine estr ?_ | skip); first | exact W_succ hlt hl | (rw [catP_succ hlt]; simp [bR]; done) | (simp [catP, bR]; done))
                    refine ⟨⟨?_, rfl, rfl⟩, ?_⟩
                    · first | exact ⟨_, rfl, .inl rfl⟩ | exact ⟨_, rfl, .inr rfl⟩ | (refine ⟨_, rfl, .inl ?_⟩; (first | refine ei ?_ | refine eb ?_ | refine esl ?_ | refine estr ?_ | skip); first | exact W_succ hlt hl | (rw [catP_succ hlt]; simp [bR]; done) | (simp [catP, bR]; done)) | (refine ⟨_, rfl, .inr ?_⟩; (first | refine ei ?_ | refine eb ?_ | refine esl ?_ | refine estr ?_ | skip); first | exact W_succ hlt hl | (rw [catP_succ hlt]; simp [bR]; done) | (simp [catP, bR]; done))
                    exact trivial
                  · refine ⟨orow rfl ?_ rfl, ?_⟩
                    · first | rfl | (first | exact W_succ hlt hl | (rw [catP_succ hlt]; simp [bR]; done) | (simp [catP, bR]; done))
                    exact trivial))))))
      · first
        | (cases hc; done)
        | (
          refine awp_exit ?_
          repeat (first | refine then_exit ?_ | refine inBlock_other rfl ?_)
          refine inBlock_exit ?_
          refine then_normal ?_
          refine awp_seq ?_
          (have hA := okP_all (l := l) (by { have := not_lt_of_dec (by assumption); rw [nR_length] at this; have e : i = l.length := by { have := hi.1; omega }; rw [e] at hi; exact hi }); have hcl := okP_len hi; have hiL : i = l.length := by { have := not_lt_of_dec (by assumption); rw [nR_length] at this; have := hi.1; omega }; subst hiL) <;> (
          refine awp_region ?_
          refine rv rfl rfl (?_)
          refine rn ?_
          refine then_normal ?_
          refine awp_seq ?_
          refine awp_seq ?_
          refine awp_region ?_
          refine rv rfl rfl (?_)
          refine rn ?_
          refine then_normal ?_
          refine awp_block ?_
          refine awp_loopR (ι := Nat × Nat) (fun p => ⟨[(0, .sl (nR l)), (1, .sl (zR cuts)), (5, .bool true), (6, .ptr 0 0), (7, .sl (bR ((catP l l.length).drop p.2))), (11, .sl (nR (parse ((catP l l.length).take p.2)).1)), (12, .int .i64 (p.1 : Int))], [(0, 0, .own 1), (0, 1, .bool false)], [(1, .row 1 (bR (parse ((catP l l.length).take p.2)).2.1))], 2⟩) (fun p => backI l cuts p) (fun p => cuts.length + 1 - p.1) ((0, 0)) (⟨by omega, Nat.zero_le _, fun h => by omega⟩) ⟨[0, 1], rfl, ?_⟩ (fun p hp => ?_)
          · refine ⟨rfl, rfl, ?_, ?_, ?_⟩
            · refine ⟨⟨?_, rfl⟩, ?_⟩
              · first | exact .inl rfl | exact .inr rfl | (refine .inl ?_; (first | refine ei ?_ | refine eb ?_ | refine esl ?_ | refine estr ?_ | skip); first | exact code_2 (by omega) | (rw [hf.2.1]; done) | (rw [hf.2.2]; simp [nR]; done) | (rw [List.drop_drop]; done) | (simp [parse_short, nR, bR]; done)) | (refine .inr ?_; (first | refine ei ?_ | refine eb ?_ | refine esl ?_ | refine estr ?_ | skip); first | exact code_2 (by omega) | (rw [hf.2.1]; done) | (rw [hf.2.2]; simp [nR]; done) | (rw [List.drop_drop]; done) | (simp [parse_short, nR, bR]; done))
              refine ⟨⟨?_, rfl⟩, ?_⟩
              · first | exact .inl rfl | exact .inr rfl | (refine .inl ?_; (first | refine ei ?_ | refine eb ?_ | refine esl ?_ | refine estr ?_ | skip); first | exact code_2 (by omega) | (rw [hf.2.1]; done) | (rw [hf.2.2]; simp [nR]; done) | (rw [List.drop_drop]; done) | (simp [parse_short, nR, bR]; done)) | (refine .inr ?_; (first | refine ei ?_ | refine eb ?_ | refine esl ?_ | refine estr ?_ | skip); first | exact code_2 (by omega) | (rw [hf.2.1]; done) | (rw [hf.2.2]; simp [nR]; done) | (rw [List.drop_drop]; done) | (simp [parse_short, nR, bR]; done))
              refine ⟨⟨?_, rfl⟩, ?_⟩
              · first | exact .inl rfl | exact .inr rfl | (refine .inl ?_; (first | refine ei ?_ | refine eb ?_ | refine esl ?_ | refine estr ?_ | skip); first | exact code_2 (by omega) | (rw [hf.2.1]; done) | (rw [hf.2.2]; simp [nR]; done) | (rw [List.drop_drop]; done) | (simp [parse_short, nR, bR]; done)) | (refine .inr ?_; (first | refine ei ?_ | refine eb ?_ | refine esl ?_ | refine estr ?_ | skip); first | exact code_2 (by omega) | (rw [hf.2.1]; done) | (rw [hf.2.2]; simp [nR]; done) | (rw [List.drop_drop]; done) | (simp [parse_short, nR, bR]; done))
              refine ⟨⟨?_, rfl⟩, ?_⟩
              · first | exact .inl rfl | exact .inr rfl | (refine .inl ?_; (first | refine ei ?_ | refine eb ?_ | refine esl ?_ | refine estr ?_ | skip); first | exact code_2 (by omega) | (rw [hf.2.1]; done) | (rw [hf.2.2]; simp [nR]; done) | (rw [List.drop_drop]; done) | (simp [parse_short, nR, bR]; done)) | (refine .inr ?_; (first | refine ei ?_ | refine eb ?_ | refine esl ?_ | refine estr ?_ | skip); first | exact code_2 (by omega) | (rw [hf.2.1]; done) | (rw [hf.2.2]; simp [nR]; done) | (rw [List.drop_drop]; done) | (simp [parse_short, nR, bR]; done))
              refine ⟨⟨?_, rfl⟩, ?_⟩
              · first | exact .inl rfl | exact .inr rfl | (refine .inl ?_; (first | refine ei ?_ | refine eb ?_ | refine esl ?_ | refine estr ?_ | skip); first | exact code_2 (by omega) | (rw [hf.2.1]; done) | (rw [hf.2.2]; simp [nR]; done) | (rw [List.drop_drop]; done) | (simp [parse_short, nR, bR]; done)) | (refine .inr ?_; (first | refine ei ?_ | refine eb ?_ | refine esl ?_ | refine estr ?_ | skip); first | exact code_2 (by omega) | (rw [hf.2.1]; done) | (rw [hf.2.2]; simp [nR]; done) | (rw [List.drop_drop]; done) | (simp [parse_short, nR, bR]; done))
              refine ⟨⟨?_, rfl⟩, ?_⟩
              · first | exact .inl rfl | exact .inr rfl | (refine .inl ?_; (first | refine ei ?_ | refine eb ?_ | refine esl ?_ | refine estr ?_ | skip); first | exact code_2 (by omega) | (rw [hf.2.1]; done) | (rw [hf.2.2]; simp [nR]; done) | (rw [List.drop_drop]; done) | (simp [parse_short, nR, bR]; done)) | (refine .inr ?_; (first | refine ei ?_ | refine eb ?_ | refine esl ?_ | refine estr ?_ | skip); first | exact code_2 (by omega) | (rw [hf.2.1]; done) | (rw [hf.2.2]; simp [nR]; done) | (rw [List.drop_drop]; done) | (simp [parse_short, nR, bR]; done))
              refine ⟨⟨?_, rfl⟩, ?_⟩
              · first | exact .inl rfl | exact .inr rfl | (refine .inl ?_; (first | refine ei ?_ | refine eb ?_ | refine esl ?_ | refine estr ?_ | skip); first | exact code_2 (by omega) | (rw [hf.2.1]; done) | (rw [hf.2.2]; simp [nR]; done) | (rw [List.drop_drop]; done) | (simp [parse_short, nR, bR]; done)) | (refine .inr ?_; (first | refine ei ?_ | refine eb ?_ | refine esl ?_ | refine estr ?_ | skip); first | exact code_2 (by omega) | (rw [hf.2.1]; done) | (rw [hf.2.2]; simp [nR]; done) | (rw [List.drop_drop]; done) | (simp [parse_short, nR, bR]; done))
              exact trivial
            · refine ⟨⟨?_, rfl, rfl⟩, ?_⟩
              · first | exact ⟨_, rfl, .inl rfl⟩ | exact ⟨_, rfl, .inr rfl⟩ | (refine ⟨_, rfl, .inl ?_⟩; (first | refine ei ?_ | refine eb ?_ | refine esl ?_ | refine estr ?_ | skip); first | exact code_2 (by omega) | (rw [hf.2.1]; done) | (rw [hf.2.2]; simp [nR]; done) | (rw [List.drop_drop]; done) | (simp [parse_short, nR, bR]; done)) | (refine ⟨_, rfl, .inr ?_⟩; (first | refine ei ?_ | refine eb ?_ | refine esl ?_ | refine estr ?_ | skip); first | exact code_2 (by omega) | (rw [hf.2.1]; done) | (rw [hf.2.2]; simp [nR]; done) | (rw [List.drop_drop]; done) | (simp [parse_short, nR, bR]; done))
              refine ⟨⟨?_, rfl, rfl⟩, ?_⟩
              · first | exact ⟨_, rfl, .inl rfl⟩ | exact ⟨_, rfl, .inr rfl⟩ | (refine ⟨_, rfl, .inl ?_⟩; (first | refine ei ?_ | refine eb ?_ | refine esl ?_ | refine estr ?_ | skip); first | exact code_2 (by omega) | (rw [hf.2.1]; done) | (rw [hf.2.2]; simp [nR]; done) | (rw [List.drop_drop]; done) | (simp [parse_short, nR, bR]; done)) | (refine ⟨_, rfl, .inr ?_⟩; (first | refine ei ?_ | refine eb ?_ | refine esl ?_ | refine estr ?_ | skip); first | exact code_2 (by omega) | (rw [hf.2.1]; done) | (rw [hf.2.2]; simp [nR]; done) | (rw [List.drop_drop]; done) | (simp [parse_short, nR, bR]; done))
              exact trivial
            · refine ⟨orow rfl ?_ rfl, ?_⟩
              · first | rfl | (first | exact code_2 (by omega) | (rw [hf.2.1]; done) | (rw [hf.2.2]; simp [nR]; done) | (rw [List.drop_drop]; done) | (simp [parse_short, nR, bR]; done))
              exact trivial
          refine awp_seq ?_
          refine awp_seq ?_
          refine awp_region ?_
          refine rv rfl rfl (?_)
          refine rv rfl rfl (?_)
          refine rv rfl rfl (?_)
          refine rv rfl rfl (?_)
          refine rn ?_
          refine then_normal ?_
          refine cs_ rfl (fun hc => ?_) (fun hc => ?_)
          · first
            | (cases hc; done)
            | (
              refine awp_skip ?_
              refine then_normal ?_
              refine awp_seq ?_
              refine awp_block ?_
              refine awp_seq ?_
              (have hle := leW (by assumption); have hpl := parse_len _ ((catP l l.length).take p.2) (Nat.le_refl _); rw [List.length_take] at hpl) <;> (
              refine awp_region ?_
              refine rv rfl rfl (?_)
              refine rv rfl rfl (?_)
              refine rv rfl rfl (?_)
              refine rn ?_
              refine then_normal ?_
              refine awp_seq ?_
              refine awp_seq ?_
              refine awp_region ?_
              refine rv rfl rfl (?_)
              refine rv rfl rfl (?_)
              refine rv rfl rfl (?_)
              refine rv rfl rfl (?_)
              refine rv rfl rfl (?_)
              (first | refine gy rfl rfl rfl (rv rfl rfl (?_)) | refine gn rfl rfl rfl rfl rfl ?_ | refine gu rfl rfl rfl rfl ?_ | refine gs rfl rfl rfl rfl rfl (fun hg => rv rfl rfl (?_)) (fun hg => ?_)) <;> (
              (first | refine gy rfl rfl rfl (rv rfl rfl (?_)) | refine gn rfl rfl rfl rfl rfl ?_ | refine gu rfl rfl rfl rfl ?_ | refine gs rfl rfl rfl rfl rfl (fun hg => rv rfl rfl (?_)) (fun hg => ?_)) <;> (
              (first | refine gy rfl rfl rfl (ri rfl rfl rfl rfl rfl rfl (Int.natCast_nonneg _) (zR_get (ltW hg)) (zR_plain _).wide (?_)) | refine gn rfl rfl rfl rfl rfl ?_ | refine gu rfl rfl rfl rfl ?_ | refine gs rfl rfl rfl rfl rfl (fun hg => ri rfl rfl rfl rfl rfl rfl (Int.natCast_nonneg _) (zR_get (ltW hg)) (zR_plain _).wide (?_)) (fun hg => ?_)) <;> (
              (first | refine gy rfl rfl rfl (rv rfl rfl (?_)) | refine gn rfl rfl rfl rfl rfl ?_ | refine gu rfl rfl rfl rfl ?_ | refine gs rfl rfl rfl rfl rfl (fun hg => rv rfl rfl (?_)) (fun hg => ?_)) <;> (
              (first | refine gy rfl rfl rfl (rv rfl rfl (?_)) | refine gn rfl rfl rfl rfl rfl ?_ | refine gu rfl rfl rfl rfl ?_ | refine gs rfl rfl rfl rfl rfl (fun hg => rv rfl rfl (?_)) (fun hg => ?_)) <;> (
              refine rv rfl rfl (?_)
              refine rv rfl rfl (?_)
              (first | refine gy rfl rfl rfl (rv rfl rfl (?_)) | refine gn rfl rfl rfl rfl rfl ?_ | refine gu rfl rfl rfl rfl ?_ | refine gs rfl rfl rfl rfl rfl (fun hg => rv rfl rfl (?_)) (fun hg => ?_)) <;> (
              (first | refine gy rfl rfl rfl (rv rfl rfl (?_)) | refine gn rfl rfl rfl rfl rfl ?_ | refine gu rfl rfl rfl rfl ?_ | refine gs rfl rfl rfl rfl rfl (fun hg => rv rfl rfl (?_)) (fun hg => ?_)) <;> (
              (first | refine gy rfl rfl rfl (ri rfl rfl rfl rfl rfl rfl (Int.natCast_nonneg _) (zR_get (ltW (by assumption))) (zR_plain _).wide (?_)) | refine gn rfl rfl rfl rfl rfl ?_ | refine gu rfl rfl rfl rfl ?_ | refine gs rfl rfl rfl rfl rfl (fun hg => ri rfl rfl rfl rfl rfl rfl (Int.natCast_nonneg _) (zR_get (ltW (by assumption))) (zR_plain _).wide (?_)) (fun hg => ?_)) <;> (
              (first | refine gy rfl rfl rfl (rv rfl rfl (?_)) | refine gn rfl rfl rfl rfl rfl ?_ | refine gu rfl rfl rfl rfl ?_ | refine gs rfl rfl rfl rfl rfl (fun hg => rv rfl rfl (?_)) (fun hg => ?_)) <;> (
              (first | refine gy rfl rfl rfl (rv rfl rfl (?_)) | refine gn rfl rfl rfl rfl rfl ?_ | refine gu rfl rfl rfl rfl ?_ | refine gs rfl rfl rfl rfl rfl (fun hg => rv rfl rfl (?_)) (fun hg => ?_)) <;> (
              (first | refine gy rfl rfl rfl (rv rfl rfl (?_)) | refine gn rfl rfl rfl rfl rfl ?_ | refine gu rfl rfl rfl rfl ?_ | refine gs rfl rfl rfl rfl rfl (fun hg => rv rfl rfl (?_)) (fun hg => ?_)) <;> (
              refine rv rfl rfl (?_)
              refine rn ?_
              refine then_normal ?_
              refine cs_ rfl (fun hc => ?_) (fun hc => ?_)
              · first
                | (cases hc; done)
                | (
                  (have hcu := ltW (by assumption)) <;> (
                  refine awp_region ?_
                  refine rv rfl rfl (?_)
                  refine rv rfl rfl (?_)
                  refine ri rfl rfl rfl rfl rfl rfl (Int.natCast_nonneg _) (zR_get hcu) (zR_plain _).wide (?_)
                  refine rv rfl rfl (?_)
                  refine rv rfl rfl (?_)
                  refine rn ?_
                  refine then_normal ?_
                  refine awp_seq ?_
                  (first | (have hcn : ∃ n : Nat, cuts[p.1]'(ltW (by assumption)) = (n : Int) ∧ n ≤ ((catP l l.length).drop p.2).length := (by exact cut_nat (by assumption) (by assumption)); obtain ⟨n, hz, hnA⟩ := hcn; have hnx := back_a (n := n) hp (ltW (by assumption)) hnA; rw [hz]) | (obtain ⟨n, hz⟩ : ∃ n : Nat, (bR ((catP l l.length).drop p.2)).length = n := ⟨_, rfl⟩; have hnA : n ≤ ((catP l l.length).drop p.2).length := (by rw [← hz, bR_length]; exact Nat.le_refl _); have hnx := back_b hp hle hz; rw [hz])) <;> (
                  refine awp_region ?_
                  refine rv rfl rfl (?_)
                  refine rv rfl rfl (?_)
                  refine rv rfl rfl (?_)
                  refine rV rfl (va_eq' (va_sub (l := 0) (h := n) rfl rfl rfl rfl rfl ⟨_, rfl⟩ (Nat.zero_le _) (by rw [bR_length]; exact hnA) (bR_plain _).wide) (congrArg AV.sl (sub0 _ _))) (?_)
                  refine rh [0, 1] rfl rfl (feed_c (by simp only [List.length_append, List.length_take, List.length_drop]; omega) (pre_feed hA p.2 n).1) rfl rfl rfl (by repeat (first | exact trivial | refine ⟨⟨⟨_, rfl, .inl rfl⟩, rfl, rfl⟩, ?_⟩ | refine ⟨⟨⟨_, rfl, .inr rfl⟩, rfl, rfl⟩, ?_⟩)) (by repeat (first | exact trivial | refine ⟨⟨⟨_, rfl, by first | exact .row | exact .ren rfl⟩, rfl⟩, ?_⟩)) ?_; rintro _ _ _ _ ⟨rfl, rfl, rfl, rfl⟩; refine as1 rfl ?_; refine ae rfl rfl rfl ?_
                  refine rv rfl rfl (?_)
                  refine rv rfl rfl (?_)
                  refine rv rfl rfl (?_)
                  refine rv rfl rfl (?_)
                  refine rv rfl rfl (?_)
                  refine rn ?_
                  refine then_normal ?_
                  refine awp_seq ?_
                  refine awp_seq ?_
                  (have hf := pre_feed hA p.2 n; have hpl2 := parse_len _ ((catP l l.length).take (p.2 + n)) (Nat.le_refl _); rw [List.length_take, hf.2.2, List.length_append] at hpl2) <;> (
                  refine awp_region ?_
                  refine rv rfl rfl (?_)
                  refine rv rfl rfl (?_)
                  refine rn ?_
                  refine then_normal ?_
                  refine cs_ rfl (fun hc => ?_) (fun hc => ?_)
                  · first
                    | (cases hc; done)
                    | (
                      refine awp_seq ?_
                      refine awp_region ?_
                      refine rv rfl rfl (?_)
                      refine rn ?_
                      refine then_normal ?_
                      refine awp_ret ?_
                      repeat (first | refine then_ret ?_ | refine inBlock_ret ?_)
                      refine rr rfl rfl ?_
                      first | rfl | (simp; done) | (exfalso; simp_all; done) | (trace_state; done))
                  · first
                    | (cases hc; done)
                    | (
                      refine awp_skip ?_
                      refine then_normal ?_
                      refine awp_seq ?_
                      refine awp_region ?_
                      refine rv rfl rfl (?_)
                      refine rv rfl rfl (?_)
                      refine rV rfl (va_eq' (va_sub (l := n) (h := (bR ((catP l l.length).drop p.2)).length) rfl rfl rfl rfl ⟨_, rfl⟩ rfl (by rw [bR_length]; exact hnA) (Nat.le_refl _) (bR_plain _).wide) (congrArg AV.sl (subT _ _))) (?_)
                      refine rv rfl rfl (?_)
                      refine rn ?_
                      refine then_normal ?_
                      refine awp_region ?_
                      refine rbs false rfl rfl rfl rfl rfl rfl rfl rfl rfl rfl (?_)
                      refine rv rfl rfl (?_)
                      refine rap false rfl rfl rfl rfl rfl rfl rfl (.own rfl rfl) (.sl rfl rfl rfl) (nR_plain _).wide (nR_plain _).ones (by show (_ + _) * 24 ≤ _; rw [nR_length]; simp; omega) rfl (?_)
                      refine rv rfl rfl (?_)
                      refine rap false rfl rfl rfl rfl rfl rfl rfl (.own rfl rfl) (.sl rfl rfl rfl) (nR_plain _).wide (nR_plain _).ones (by show (_ + _) * 24 ≤ _; rw [List.nil_append, nR_length, nR_length]; omega) rfl (?_)
                      refine rv rfl rfl (?_)
                      refine rn ?_
                      refine inBlock_normal ?_
                      refine then_normal ?_
                      refine awp_region ?_
                      refine rv rfl rfl (?_)
                      refine rv rfl rfl (?_)
                      refine rv rfl rfl (?_)
                      refine rn ?_
                      refine then_normal ?_
                      refine ⟨(p.1 + 1, p.2 + n), hnx, by show cuts.length + 1 - (p.1 + 1) < _; omega, [0, 2], rfl, ?_⟩
                      refine ⟨rfl, rfl, ?_, ?_, ?_⟩
                      · refine ⟨⟨?_, rfl⟩, ?_⟩
                        · first | exact .inl rfl | exact .inr rfl | (refine .inl ?_; (first | refine ei ?_ | refine eb ?_ | refine esl ?_ | refine estr ?_ | skip); first | exact code_2 (by omega) | (rw [hf.2.1]; done) | (rw [hf.2.2]; simp [nR]; done) | (rw [List.drop_drop]; done) | (simp [parse_short, nR, bR]; done)) | (refine .inr ?_; (first | refine ei ?_ | refine eb ?_ | refine esl ?_ | refine estr ?_ | skip); first | exact code_2 (by omega) | (rw [hf.2.1]; done) | (rw [hf.2.2]; simp [nR]; done) | (rw [List.drop_drop]; done) | (simp [parse_short, nR, bR]; done))
                        refine ⟨⟨?_, rfl⟩, ?_⟩
                        · first | exact .inl rfl | exact .inr rfl | (refine .inl ?_; (first | refine ei ?_ | refine eb ?_ | refine esl ?_ | refine estr ?_ | skip); first | exact code_2 (by omega) | (rw [hf.2.1]; done) | (rw [hf.2.2]; simp [nR]; done) | (rw [List.drop_drop]; done) | (simp [parse_short, nR, bR]; done)) | (refine .inr ?_; (first | refine ei ?_ | refine eb ?_ | refine esl ?_ | refine estr ?_ | skip); first | exact code_2 (by omega) | (rw [hf.2.1]; done) | (rw [hf.2.2]; simp [nR]; done) | (rw [List.drop_drop]; done) | (simp [parse_short, nR, bR]; done))
                        refine ⟨⟨?_, rfl⟩, ?_⟩
                        · first | exact .inl rfl | exact .inr rfl | (refine .inl ?_; (first | refine ei ?_ | refine eb ?_ | refine esl ?_ | refine estr ?_ | skip); first | exact code_2 (by omega) | (rw [hf.2.1]; done) | (rw [hf.2.2]; simp [nR]; done) | (rw [List.drop_drop]; done) | (simp [parse_short, nR, bR]; done)) | (refine .inr ?_; (first | refine ei ?_ | refine eb ?_ | refine esl ?_ | refine estr ?_ | skip); first | exact code_2 (by omega) | (rw [hf.2.1]; done) | (rw [hf.2.2]; simp [nR]; done) | (rw [List.drop_drop]; done) | (simp [parse_short, nR, bR]; done))
                        refine ⟨⟨?_, rfl⟩, ?_⟩
                        · first | exact .inl rfl | exact .inr rfl | (refine .inl ?_; (first | refine ei ?_ | refine eb ?_ | refine esl ?_ | refine estr ?_ | skip); first | exact code_2 (by omega) | (rw [hf.2.1]; done) | (rw [hf.2.2]; simp [nR]; done) | (rw [List.drop_drop]; done) | (simp [parse_short, nR, bR]; done)) | (refine .inr ?_; (first | refine ei ?_ | refine eb ?_ | refine esl ?_ | refine estr ?_ | skip); first | exact code_2 (by omega) | (rw [hf.2.1]; done) | (rw [hf.2.2]; simp [nR]; done) | (rw [List.drop_drop]; done) | (simp [parse_short, nR, bR]; done))
                        refine ⟨⟨?_, rfl⟩, ?_⟩
                        · first | exact .inl rfl | exact .inr rfl | (refine .inl ?_; (first | refine ei ?_ | refine eb ?_ | refine esl ?_ | refine estr ?_ | skip); first | exact code_2 (by omega) | (rw [hf.2.1]; done) | (rw [hf.2.2]; simp [nR]; done) | (rw [List.drop_drop]; done) | (simp [parse_short, nR, bR]; done)) | (refine .inr ?_; (first | refine ei ?_ | refine eb ?_ | refine esl ?_ | refine estr ?_ | skip); first | exact code_2 (by omega) | (rw [hf.2.1]; done) | (rw [hf.2.2]; simp [nR]; done) | (rw [List.drop_drop]; done) | (simp [parse_short, nR, bR]; done))
                        refine ⟨⟨?_, rfl⟩, ?_⟩
                        · first | exact .inl rfl | exact .inr rfl | (refine .inl ?_; (first | refine ei ?_ | refine eb ?_ | refine esl ?_ | refine estr ?_ | skip); first | exact code_2 (by omega) | (rw [hf.2.1]; done) | (rw [hf.2.2]; simp [nR]; done) | (rw [List.drop_drop]; done) | (simp [parse_short, nR, bR]; done)) | (refine .inr ?_; (first | refine ei ?_ | refine eb ?_ | refine esl ?_ | refine estr ?_ | skip); first | exact code_2 (by omega) | (rw [hf.2.1]; done) | (rw [hf.2.2]; simp [nR]; done) | (rw [List.drop_drop]; done) | (simp [parse_short, nR, bR]; done))
                        refine ⟨⟨?_, rfl⟩, ?_⟩
                        · first | exact .inl rfl | exact .inr rfl | (refine .inl ?_; (first | refine ei ?_ | refine eb ?_ | refine esl ?_ | refine estr ?_ | skip); first | exact code_2 (by omega) | (rw [hf.2.1]; done) | (rw [hf.2.2]; simp [nR]; done) | (rw [List.drop_drop]; done) | (simp [parse_short, nR, bR]; done)) | (refine .inr ?_; (first | refine ei ?_ | refine eb ?_ | refine esl ?_ | refine estr ?_ | skip); first | exact code_2 (by omega) | (rw [hf.2.1]; done) | (rw [hf.2.2]; simp [nR]; done) | (rw [List.drop_drop]; done) | (simp [parse_short, nR, bR]; done))
                        exact trivial
                      · refine ⟨⟨?_, rfl, rfl⟩, ?_⟩
                        · first | exact ⟨_, rfl, .inl rfl⟩ | exact ⟨_, rfl, .inr rfl⟩ | (refine ⟨_, rfl, .inl ?_⟩; (first | refine ei ?_ | refine eb ?_ | refine esl ?_ | refine estr ?_ | skip); first | exact code_2 (by omega) | (rw [hf.2.1]; done) | (rw [hf.2.2]; simp [nR]; done) | (rw [List.drop_drop]; done) | (simp [parse_short, nR, bR]; done)) | (refine ⟨_, rfl, .inr ?_⟩; (first | refine ei ?_ | refine eb ?_ | refine esl ?_ | refine estr ?_ | skip); first | exact code_2 (by omega) | (rw [hf.2.1]; done) | (rw [hf.2.2]; simp [nR]; done) | (rw [List.drop_drop]; done) | (simp [parse_short, nR, bR]; done))
                        refine ⟨⟨?_, rfl, rfl⟩, ?_⟩
                        · first | exact ⟨_, rfl, .inl rfl⟩ | exact ⟨_, rfl, .inr rfl⟩ | (refine ⟨_, rfl, .inl ?_⟩; (first | refine ei ?_ | refine eb ?_ | refine esl ?_ | refine estr ?_ | skip); first | exact code_2 (by omega) | (rw [hf.2.1]; done) | (rw [hf.2.2]; simp [nR]; done) | (rw [List.drop_drop]; done) | (simp [parse_short, nR, bR]; done)) | (refine ⟨_, rfl, .inr ?_⟩; (first | refine ei ?_ | refine eb ?_ | refine esl ?_ | refine estr ?_ | skip); first | exact code_2 (by omega) | (rw [hf.2.1]; done) | (rw [hf.2.2]; simp [nR]; done) | (rw [List.drop_drop]; done) | (simp [parse_short, nR, bR]; done))
                        exact trivial
                      · refine ⟨orow rfl ?_ rfl, ?_⟩
                        · first | rfl | (first | exact code_2 (by omega) | (rw [hf.2.1]; done) | (rw [hf.2.2]; simp [nR]; done) | (rw [List.drop_drop]; done) | (simp [parse_short, nR, bR]; done))
                        exact trivial)))))
              · first
                | (cases hc; done)
                | (
                  refine awp_skip ?_
                  refine then_normal ?_
                  refine awp_seq ?_
                  (first | (have hcn : ∃ n : Nat, cuts[p.1]'(ltW (by assumption)) = (n : Int) ∧ n ≤ ((catP l l.length).drop p.2).length := (by exact cut_nat (by assumption) (by assumption)); obtain ⟨n, hz, hnA⟩ := hcn; have hnx := back_a (n := n) hp (ltW (by assumption)) hnA; rw [hz]) | (obtain ⟨n, hz⟩ : ∃ n : Nat, (bR ((catP l l.length).drop p.2)).length = n := ⟨_, rfl⟩; have hnA : n ≤ ((catP l l.length).drop p.2).length := (by rw [← hz, bR_length]; exact Nat.le_refl _); have hnx := back_b hp hle hz; rw [hz])) <;> (
                  refine awp_region ?_
                  refine rv rfl rfl (?_)
                  refine rv rfl rfl (?_)
                  refine rv rfl rfl (?_)
                  refine rV rfl (va_eq' (va_sub (l := 0) (h := n) rfl rfl rfl rfl rfl ⟨_, rfl⟩ (Nat.zero_le _) (by rw [bR_length]; exact hnA) (bR_plain _).wide) (congrArg AV.sl (sub0 _ _))) (?_)
                  refine rh [0, 1] rfl rfl (feed_c (by simp only [List.length_append, List.length_take, List.length_drop]; omega) (pre_feed hA p.2 n).1) rfl rfl rfl (by repeat (first | exact trivial | refine ⟨⟨⟨_, rfl, .inl rfl⟩, rfl, rfl⟩, ?_⟩ | refine ⟨⟨⟨_, rfl, .inr rfl⟩, rfl, rfl⟩, ?_⟩)) (by repeat (first | exact trivial | refine ⟨⟨⟨_, rfl, by first | exact .row | exact .ren rfl⟩, rfl⟩, ?_⟩)) ?_; rintro _ _ _ _ ⟨rfl, rfl, rfl, rfl⟩; refine as1 rfl ?_; refine ae rfl rfl rfl ?_
                  refine rv rfl rfl (?_)
                  refine rv rfl rfl (?_)
                  refine rv rfl rfl (?_)
                  refine rv rfl rfl (?_)
                  refine rv rfl rfl (?_)
                  refine rn ?_
                  refine then_normal ?_
                  refine awp_seq ?_
                  refine awp_seq ?_
                  (have hf := pre_feed hA p.2 n; have hpl2 := parse_len _ ((catP l l.length).take (p.2 + n)) (Nat.le_refl _); rw [List.length_take, hf.2.2, List.length_append] at hpl2) <;> (
                  refine awp_region ?_
                  refine rv rfl rfl (?_)
                  refine rv rfl rfl (?_)
                  refine rn ?_
                  refine then_normal ?_
                  refine cs_ rfl (fun hc => ?_) (fun hc => ?_)
                  · first
                    | (cases hc; done)
                    | (
                      refine awp_seq ?_
                      refine awp_region ?_
                      refine rv rfl rfl (?_)
                      refine rn ?_
                      refine then_normal ?_
                      refine awp_ret ?_
                      repeat (first | refine then_ret ?_ | refine inBlock_ret ?_)
                      refine rr rfl rfl ?_
                      first | rfl | (simp; done) | (exfalso; simp_all; done) | (trace_state; done))
                  · first
                    | (cases hc; done)
                    | (
                      refine awp_skip ?_
                      refine then_normal ?_
                      refine awp_seq ?_
                      refine awp_region ?_
                      refine rv rfl rfl (?_)
                      refine rv rfl rfl (?_)
                      refine rV rfl (va_eq' (va_sub (l := n) (h := (bR ((catP l l.length).drop p.2)).length) rfl rfl rfl rfl ⟨_, rfl⟩ rfl (by rw [bR_length]; exact hnA) (Nat.le_refl _) (bR_plain _).wide) (congrArg AV.sl (subT _ _))) (?_)
                      refine rv rfl rfl (?_)
                      refine rn ?_
                      refine then_normal ?_
                      refine awp_region ?_
                      refine rbs false rfl rfl rfl rfl rfl rfl rfl rfl rfl rfl (?_)
                      refine rv rfl rfl (?_)
                      refine rap false rfl rfl rfl rfl rfl rfl rfl (.own rfl rfl) (.sl rfl rfl rfl) (nR_plain _).wide (nR_plain _).ones (by show (_ + _) * 24 ≤ _; rw [nR_length]; simp; omega) rfl (?_)
                      refine rv rfl rfl (?_)
                      refine rap false rfl rfl rfl rfl rfl rfl rfl (.own rfl rfl) (.sl rfl rfl rfl) (nR_plain _).wide (nR_plain _).ones (by show (_ + _) * 24 ≤ _; rw [List.nil_append, nR_length, nR_length]; omega) rfl (?_)
                      refine rv rfl rfl (?_)
                      refine rn ?_
                      refine inBlock_normal ?_
                      refine then_normal ?_
                      refine awp_region ?_
                      refine rv rfl rfl (?_)
                      refine rv rfl rfl (?_)
                      refine rv rfl rfl (?_)
                      refine rn ?_
                      refine then_normal ?_
                      refine ⟨(p.1 + 1, p.2 + n), hnx, by show cuts.length + 1 - (p.1 + 1) < _; omega, [0, 2], rfl, ?_⟩
                      refine ⟨rfl, rfl, ?_, ?_, ?_⟩
                      · refine ⟨⟨?_, rfl⟩, ?_⟩
                        · first | exact .inl rfl | exact .inr rfl | (refine .inl ?_; (first | refine ei ?_ | refine eb ?_ | refine esl ?_ | refine estr ?_ | skip); first | exact code_2 (by omega) | (rw [hf.2.1]; done) | (rw [hf.2.2]; simp [nR]; done) | (rw [List.drop_drop]; done) | (simp [parse_short, nR, bR]; done)) | (refine .inr ?_; (first | refine ei ?_ | refine eb ?_ | refine esl ?_ | refine estr ?_ | skip); first | exact code_2 (by omega) | (rw [hf.2.1]; done) | (rw [hf.2.2]; simp [nR]; done) | (rw [List.drop_drop]; done) | (simp [parse_short, nR, bR]; done))
                        refine ⟨⟨?_, rfl⟩, ?_⟩
                        · first | exact .inl rfl | exact .inr rfl | (refine .inl ?_; (first | refine ei ?_ | refine eb ?_ | refine esl ?_ | refine estr ?_ | skip); first | exact code_2 (by omega) | (rw [hf.2.1]; done) | (rw [hf.2.2]; simp [nR]; done) | (rw [List.drop_drop]; done) | (simp [parse_short, nR, bR]; done)) | (refine .inr ?_; (first | refine ei ?_ | refine eb ?_ | refine esl ?_ | refine estr ?_ | skip); first | exact code_2 (by omega) | (rw [hf.2.1]; done) | (rw [hf.2.2]; simp [nR]; done) | (rw [List.drop_drop]; done) | (simp [parse_short, nR, bR]; done))
                        refine ⟨⟨?_, rfl⟩, ?_⟩
                        · first | exact .inl rfl | exact .inr rfl | (refine .inl ?_; (first | refine ei ?_ | refine eb ?_ | refine esl ?_ | refine estr ?_ | skip); first | exact code_2 (by omega) | (rw [hf.2.1]; done) | (rw [hf.2.2]; simp [nR]; done) | (rw [List.drop_drop]; done) | (simp [parse_short, nR, bR]; done)) | (refine .inr ?_; (first | refine ei ?_ | refine eb ?_ | refine esl ?_ | refine estr ?_ | skip); first | exact code_2 (by omega) | (rw [hf.2.1]; done) | (rw [hf.2.2]; simp [nR]; done) | (rw [List.drop_drop]; done) | (simp [parse_short, nR, bR]; done))
                        refine ⟨⟨?_, rfl⟩, ?_⟩
                        · first | exact .inl rfl | exact .inr rfl | (refine .inl ?_; (first | refine ei ?_ | refine eb ?_ | refine esl ?_ | refine estr ?_ | skip); first | exact code_2 (by omega) | (rw [hf.2.1]; done) | (rw [hf.2.2]; simp [nR]; done) | (rw [List.drop_drop]; done) | (simp [parse_short, nR, bR]; done)) | (refine .inr ?_; (first | refine ei ?_ | refine eb ?_ | refine esl ?_ | refine estr ?_ | skip); first | exact code_2 (by omega) | (rw [hf.2.1]; done) | (rw [hf.2.2]; simp [nR]; done) | (rw [List.drop_drop]; done) | (simp [parse_short, nR, bR]; done))
                        refine ⟨⟨?_, rfl⟩, ?_⟩
                        · first | exact .inl rfl | exact .inr rfl | (refine .inl ?_; (first | refine ei ?_ | refine eb ?_ | refine esl ?_ | refine estr ?_ | skip); first | exact code_2 (by omega) | (rw [hf.2.1]; done) | (rw [hf.2.2]; simp [nR]; done) | (rw [List.drop_drop]; done) | (simp [parse_short, nR, bR]; done)) | (refine .inr ?_; (first | refine ei ?_ | refine eb ?_ | refine esl ?_ | refine estr ?_ | skip); first | exact code_2 (by omega) | (rw [hf.2.1]; done) | (rw [hf.2.2]; simp [nR]; done) | (rw [List.drop_drop]; done) | (simp [parse_short, nR, bR]; done))
                        refine ⟨⟨?_, rfl⟩, ?_⟩
                        · first | exact .inl rfl | exact .inr rfl | (refine .inl ?_; (first | refine ei ?_ | refine eb ?_ | refine esl ?_ | refine estr ?_ | skip); first | exact code_2 (by omega) | (rw [hf.2.1]; done) | (rw [hf.2.2]; simp [nR]; done) | (rw [List.drop_drop]; done) | (simp [parse_short, nR, bR]; done)) | (refine .inr ?_; (first | refine ei ?_ | refine eb ?_ | refine esl ?_ | refine estr ?_ | skip); first | exact code_2 (by omega) | (rw [hf.2.1]; done) | (rw [hf.2.2]; simp [nR]; done) | (rw [List.drop_drop]; done) | (simp [parse_short, nR, bR]; done))
                        refine ⟨⟨?_, rfl⟩, ?_⟩
                        · first | exact .inl rfl | exact .inr rfl | (refine .inl ?_; (first | refine ei ?_ | refine eb ?_ | refine esl ?_ | refine estr ?_ | skip); first | exact code_2 (by omega) | (rw [hf.2.1]; done) | (rw [hf.2.2]; simp [nR]; done) | (rw [List.drop_drop]; done) | (simp [parse_short, nR, bR]; done)) | (refine .inr ?_; (first | refine ei ?_ | refine eb ?_ | refine esl ?_ | refine estr ?_ | skip); first | exact code_2 (by omega) | (rw [hf.2.1]; done) | (rw [hf.2.2]; simp [nR]; done) | (rw [List.drop_drop]; done) | (simp [parse_short, nR, bR]; done))
                        exact trivial
                      · refine ⟨⟨?_, rfl, rfl⟩, ?_⟩
                        · first | exact ⟨_, rfl, .inl rfl⟩ | exact ⟨_, rfl, .inr rfl⟩ | (refine ⟨_, rfl, .inl ?_⟩; (first | refine ei ?_ | refine eb ?_ | refine esl ?_ | refine estr ?_ | skip); first | exact code_2 (by omega) | (rw [hf.2.1]; done) | (rw [hf.2.2]; simp [nR]; done) | (rw [List.drop_drop]; done) | (simp [parse_short, nR, bR]; done)) | (refine ⟨_, rfl, .inr ?_⟩; (first | refine ei ?_ | refine eb ?_ | refine esl ?_ | refine estr ?_ | skip); first | exact code_2 (by omega) | (rw [hf.2.1]; done) | (rw [hf.2.2]; simp [nR]; done) | (rw [List.drop_drop]; done) | (simp [parse_short, nR, bR]; done))
                        refine ⟨⟨?_, rfl, rfl⟩, ?_⟩
                        · first | exact ⟨_, rfl, .inl rfl⟩ | exact ⟨_, rfl, .inr rfl⟩ | (refine ⟨_, rfl, .inl ?_⟩; (first | refine ei ?_ | refine eb ?_ | refine esl ?_ | refine estr ?_ | skip); first | exact code_2 (by omega) | (rw [hf.2.1]; done) | (rw [hf.2.2]; simp [nR]; done) | (rw [List.drop_drop]; done) | (simp [parse_short, nR, bR]; done)) | (refine ⟨_, rfl, .inr ?_⟩; (first | refine ei ?_ | refine eb ?_ | refine esl ?_ | refine estr ?_ | skip); first | exact code_2 (by omega) | (rw [hf.2.1]; done) | (rw [hf.2.2]; simp [nR]; done) | (rw [List.drop_drop]; done) | (simp [parse_short, nR, bR]; done))
                        exact trivial
                      · refine ⟨orow rfl ?_ rfl, ?_⟩
                        · first | rfl | (first | exact code_2 (by omega) | (rw [hf.2.1]; done) | (rw [hf.2.2]; simp [nR]; done) | (rw [List.drop_drop]; done) | (simp [parse_short, nR, bR]; done))
                        exact trivial)))))))))))))))))
          · first
            | (cases hc; done)
            | (
              refine awp_exit ?_
              repeat (first | refine then_exit ?_ | refine inBlock_other rfl ?_)
              refine inBlock_exit ?_
              refine then_normal ?_
              refine awp_seq ?_
              (have he := back_end hp (nleW (by assumption)) hA) <;> (
              refine awp_region ?_
              refine rv rfl rfl (?_)
              refine rv rfl rfl (?_)
              (first | refine gy rfl rfl rfl (rv rfl rfl (?_)) | refine gn rfl rfl rfl rfl rfl ?_ | refine gu rfl rfl rfl rfl ?_ | refine gs rfl rfl rfl rfl rfl (fun hg => rv rfl rfl (?_)) (fun hg => ?_)) <;> (
              (first | refine gy rfl rfl rfl (rv rfl rfl (?_)) | refine gn rfl rfl rfl rfl rfl ?_ | refine gu rfl rfl rfl rfl ?_ | refine gs rfl rfl rfl rfl rfl (fun hg => rv rfl rfl (?_)) (fun hg => ?_)) <;> (
              (first | refine gy rfl rfl rfl (rc1 rfl rfl rfl (whole_b (x := []) hl he.1.symm) (?_)) | refine gn rfl rfl rfl rfl rfl ?_ | refine gu rfl rfl rfl rfl ?_ | refine gs rfl rfl rfl rfl rfl (fun hg => rc1 rfl rfl rfl (whole_b (x := []) hl he.1.symm) (?_)) (fun hg => ?_)) <;> (
              refine rv rfl rfl (?_)
              refine rv rfl rfl (?_)
              (first | refine gy rfl rfl rfl (rv rfl rfl (?_)) | refine gn rfl rfl rfl rfl rfl ?_ | refine gu rfl rfl rfl rfl ?_ | refine gs rfl rfl rfl rfl rfl (fun hg => rv rfl rfl (?_)) (fun hg => ?_)) <;> (
              (first | (refine gy rfl rfl rfl ?_; refine rh [0, 1] rfl rfl (end_c (x := (parse ((catP l l.length).take p.2)).2.1) (bad := false) (k := 0) (by rw [he.2]; rfl)) rfl rfl rfl (by repeat (first | exact trivial | refine ⟨⟨⟨_, rfl, .inl rfl⟩, rfl, rfl⟩, ?_⟩ | refine ⟨⟨⟨_, rfl, .inr rfl⟩, rfl, rfl⟩, ?_⟩)) (by repeat (first | exact trivial | refine ⟨⟨⟨_, rfl, by first | exact .row | exact .ren rfl⟩, rfl⟩, ?_⟩)) ?_; rintro _ _ _ _ ⟨rfl, rfl, rfl, rfl⟩; refine as1 rfl ?_; refine ae rfl rfl rfl ?_) | refine gn rfl rfl rfl rfl rfl ?_ | refine gu rfl rfl rfl rfl ?_ | (refine gs rfl rfl rfl rfl rfl (fun hg => ?_) (fun hg => ?_) <;> first | (refine rh [0, 1] rfl rfl (end_c (x := (parse ((catP l l.length).take p.2)).2.1) (bad := false) (k := 0) (by rw [he.2]; rfl)) rfl rfl rfl (by repeat (first | exact trivial | refine ⟨⟨⟨_, rfl, .inl rfl⟩, rfl, rfl⟩, ?_⟩ | refine ⟨⟨⟨_, rfl, .inr rfl⟩, rfl, rfl⟩, ?_⟩)) (by repeat (first | exact trivial | refine ⟨⟨⟨_, rfl, by first | exact .row | exact .ren rfl⟩, rfl⟩, ?_⟩)) ?_; rintro _ _ _ _ ⟨rfl, rfl, rfl, rfl⟩; refine as1 rfl ?_; refine ae rfl rfl rfl ?_) | skip)) <;> (
              (first | refine gy rfl rfl rfl (rv rfl rfl (?_)) | refine gn rfl rfl rfl rfl rfl ?_ | refine gu rfl rfl rfl rfl ?_ | refine gs rfl rfl rfl rfl rfl (fun hg => rv rfl rfl (?_)) (fun hg => ?_)) <;> (
              refine rv rfl rfl (?_)
              refine rv rfl rfl (?_)
              refine rn ?_
              refine then_normal ?_
              refine awp_ret ?_
              repeat (first | refine then_ret ?_ | refine inBlock_ret ?_)
              refine rr rfl rfl ?_
              first | rfl | (simp; done) | (exfalso; simp_all; done) | (trace_state; done)))))))))))))))))))
end

end Go.Proofs.Ytfonfgnbjkpanaa
