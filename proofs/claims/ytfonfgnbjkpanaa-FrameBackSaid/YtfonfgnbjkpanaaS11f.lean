/- Contracts, printed by a program of this session's. -/
import Derived.Test.YtfonfgnbjkpanaaS11e
namespace Go.Proofs.Ytfonfgnbjkpanaa
open Go.Pv
set_option maxRecDepth 100000
set_option maxHeartbeats 4000000
set_option linter.unusedSimpArgs false
set_option linter.unusedVariables false
set_option linter.unusedSectionVars false

def catI (l : List Bs) (i : Nat) : Bs := (l.take i).flatten
def gotI (l : List Bs) (i : Nat) : List Bs := (parse (catI l i)).1
def rstI (l : List Bs) (i : Nat) : Bs := (parse (catI l i)).2.1
def badI (l : List Bs) (i : Nat) : Bool := (parse (catI l i)).2.2
theorem cat_succ {l : List Bs} {i : Nat} (h : i < l.length) : catI l (i + 1) = catI l i ++ l[i] := by
  unfold catI; rw [List.take_add_one, List.getElem?_eq_getElem h, List.flatten_append]; simp
def smallI (l : List Bs) (i : Nat) : Prop := i ≤ l.length ∧ ∀ j, j < i → ∀ h : j < l.length, (l[j]'h).length ≤ 10000
theorem small_len {l : List Bs} : ∀ {i : Nat}, smallI l i → (catI l i).length ≤ 10000 * i
  | 0, _ => by simp [catI]
  | i + 1, h => by
    have h0 : i < l.length := h.1
    rw [cat_succ h0]
    have := small_len (i := i) ⟨by omega, fun j hj hl => h.2 j (by omega) hl⟩
    have h2 := h.2 i (by omega) h0
    simp only [List.length_append]; omega
theorem small_step {l : List Bs} {i : Nat} (h : smallI l i) (hl : i < l.length) (hc : (l[i]).length ≤ 10000) : smallI l (i + 1) :=
  ⟨hl, fun j hj hj' => by
    by_cases e : j = i
    · subst e; exact hc
    · exact h.2 j (by omega) hj'⟩
/-- After i pieces the reader holds x. -/
def rdI (l : List Bs) (i : Nat) (x : Bs) : Prop := smallI l i ∧ (badI l i = false → x = rstI l i) ∧ x.length ≤ 10000 * i
theorem feed_next {l : List Bs} {i : Nat} {x : Bs} (hx : rdI l i x) (h : i < l.length) (hs : (l[i]).length ≤ 10000) : gotI l (i + 1) = gotI l i ++ feedO (badI l i) x l[i] ∧ badI l (i + 1) = feedB (badI l i) x l[i] ∧
    rdI l (i + 1) (feedR (badI l i) x l[i]) := by
  have := parse_app (catI l i).length (catI l i) l[i] (Nat.le_refl _)
  rw [← cat_succ h] at this
  have hsm := small_step hx.1 h hs
  cases hb : badI l i with
  | true =>
    have h1 := this.1 hb
    have h2 : badI l (i + 1) = true := by simp only [badI, h1]
    refine ⟨?_, ?_, hsm, ?_, ?_⟩
    · simp only [gotI, h1, feedO]; simp
    · rw [h2]; simp [feedB]
    · rw [h2]; intro h; cases h
    · have := hx.2.2; simp only [feedR]; simp; omega
  | false =>
    have h1 := this.2 hb
    have h3 := hx.2.1 hb
    refine ⟨?_, ?_, hsm, fun _ => ?_, ?_⟩
    · simp only [gotI, h1, feedO, h3]; simp [rstI]
    · simp only [badI, h1, feedB, h3]; simp [rstI]
    · simp only [rstI, h1, feedR, h3]; simp [rstI]
    · have h4 := (parse_len _ (x ++ l[i]) (Nat.le_refl _)).2
      have := hx.2.2
      simp only [feedR, List.length_append] at *; simp; omega
theorem ref_end {l : List Bs} {i : Nat} {x : Bs} (hx : rdI l i x) : refC (catI l i) = endC (badI l i) x := by
  show endC (badI l i) (rstI l i) = _
  cases hb : badI l i with
  | true => simp [endC]
  | false => rw [hx.2.1 hb]
theorem le10 {b : Bs} (h : decide (((bR b).length : Int) > 10000) = false) : b.length ≤ 10000 := by rw [bR_length] at h; simp at h; omega
theorem le50 {l : List Bs} (h : decide (((nR l).length : Int) > 50) = false) : l.length ≤ 50 := by rw [nR_length] at h; simp at h; omega
theorem whole_y {a x b : List Bs} (hl : (a ++ x).length ≤ maxLen) (h : b = a ++ x) : PCall Try.prog 42 [.sl (([] ++ nR a) ++ nR x), .sl (nR b)] (· = .bool true) := by
  subst h
  rw [List.nil_append, nR_append]
  exact (whole_c hl).mono fun r hr => by rw [hr]; simp
theorem frames_y {b : Bs} {c : Nat} (hl : b.length ≤ 1000000000) (h : refC b = c) : PCall Try.prog 41 [.sl (bR b)] (· = .tup [.sl (nR (parse b).1), .int .i64 (c : Int)]) := h ▸ frames_c hl
def iR (l : List Int) : List (List AV) := l.map fun c => [.int .u8 c]
theorem iR_plain (l : List Int) : Plain 1 (iR l) := Plain.map (f := fun c : Int => [AV.int .u8 c]) (fun _ => ⟨rfl, rfl, rfl⟩) l
theorem iR_of (b : Bs) : bR b = iR (b.map fun c => (c.toNat : Int)) := by simp [bR, iR, Function.comp_def]
theorem iR_get {l : List Int} {i : Nat} (h : i < l.length) : (iR l)[((i : Int)).toNat]? = some [.int .u8 (l[i]'h)] := by simp [iR, h]
theorem iR_set (l : List Int) (i : Nat) (v x : Int) : (iR l).set ((i : Int)).toNat ([AV.int .u8 x].take 0 ++ [AV.int .u8 v] ++ [AV.int .u8 x].drop (0 + [AV.int .u8 v].length)) = iR (l.set i v) := by
  simp [iR, List.map_set]
theorem three (b : Bool) (x : Bs) : b = true ∧ endC b x = 5 ∨ b = false ∧ endC b x = 6 ∨ b = false ∧ endC b x = 0 := by
  cases b with
  | true => exact .inl ⟨rfl, rfl⟩
  | false =>
    by_cases h : 0 < x.length
    · exact .inr (.inl ⟨rfl, endC_six rfl h⟩)
    · exact .inr (.inr ⟨rfl, endC_0 rfl h⟩)
theorem ren_wr (ρ : Nat → Nat) (y : Bs) : Kind.ren ρ (.wr 1 (bR y)) = .wr 1 (bR y) := by simp only [Kind.ren, renLL_closed _ (bR_plain y).lim]
theorem lt_iR {k : Nat} {l : List Int} (h : decide ((k : Int) < ((iR l).length : Int)) = true) : k < l.length := by simp [iR] at h; omega
theorem code_big {i : Nat} (h : i ≤ 100000) : IntKind.wrap .i64 ((i : Int) + 1) = ((i + 1 : Nat) : Int) := by
  have := W_id (n := (i : Int) + 1) (by omega); rw [W] at this; rw [this]; rfl
theorem errB_lim (b : Bool) (n : Int) (m : Nat) : (errB b n).lim m = true := by cases b <;> rfl
theorem errB_ren (b : Bool) (n : Int) (ρ : Nat → Nat) : (errB b n).ren ρ = errB b n := by cases b <;> rfl
theorem code_k {b : Bool} {x : Bs} {c : Nat} (h : endC b x = c) : PCall Try.prog 43 [errN c] (· = .int .i64 (c : Int)) := code_c (by rw [← h]; unfold endC; split <;> first | omega | (split <;> omega))
theorem err_lit (b : Bool) : errB b 5 = match b with | true => .iface 47 (.int .i64 5) | false => .nilI := rfl
theorem got_len (l : List Bs) (i : Nat) : (gotI l i).length ≤ (catI l i).length := by
  have := (parse_len _ (catI l i) (Nat.le_refl _)).1
  unfold gotI; omega

section
attribute [local irreducible] awp aops DP PCall ACall Decidable.decide
/-- `plover/ploverlaw11.FrameReads` -/
theorem FrameReads_c {l : List Bs} (hl : l.length ≤ maxLen) : PCall Try.prog 8 [.sl (nR l)] (· = .bool (true)) := by
  refine pcall_body Try.func8 rfl (by kernel_rfl) (by rfl) ?_
  refine awp_seq ?_
  refine awp_region ?_
  refine rv rfl rfl (?_)
  refine rn ?_
  refine then_normal ?_
  refine awp_seq ?_
  refine awp_region ?_
  refine rc1 rfl rfl rfl up11_c (?_)
  refine rv rfl rfl (?_)
  refine rn ?_
  refine then_normal ?_
  refine awp_seq ?_
  refine awp_region ?_
  refine rh [] rfl rfl new_c rfl rfl rfl (by repeat (first | exact trivial | refine ⟨⟨⟨_, rfl, .inl rfl⟩, rfl, rfl⟩, ?_⟩ | refine ⟨⟨⟨_, rfl, .inr rfl⟩, rfl, rfl⟩, ?_⟩)) (by repeat (first | exact trivial | refine ⟨⟨⟨_, rfl, by first | exact .row | exact .ren rfl⟩, rfl⟩, ?_⟩)) ?_; rintro _ _ _ _ ⟨rfl, rfl, rfl, rfl⟩; refine as1 rfl ?_; refine ae rfl rfl rfl ?_
  refine rv rfl rfl (?_)
  refine rn ?_
  refine then_normal ?_
  refine awp_seq ?_
  refine awp_seq ?_
  refine awp_region ?_
  refine rv rfl rfl (?_)
  refine rv rfl rfl (?_)
  refine rv rfl rfl (?_)
  (first | refine gy rfl rfl rfl (rv rfl rfl (?_)) | refine gn rfl rfl rfl rfl rfl ?_ | refine gu rfl rfl rfl rfl ?_ | refine gs rfl rfl rfl rfl rfl (fun hg => rv rfl rfl (?_)) (fun hg => ?_)) <;> (
  (first | refine gy rfl rfl rfl (rv rfl rfl (?_)) | refine gn rfl rfl rfl rfl rfl ?_ | refine gu rfl rfl rfl rfl ?_ | refine gs rfl rfl rfl rfl rfl (fun hg => rv rfl rfl (?_)) (fun hg => ?_)) <;> (
  (first | refine gy rfl rfl rfl (rv rfl rfl (?_)) | refine gn rfl rfl rfl rfl rfl ?_ | refine gu rfl rfl rfl rfl ?_ | refine gs rfl rfl rfl rfl rfl (fun hg => rv rfl rfl (?_)) (fun hg => ?_)) <;> (
  refine rv rfl rfl (?_)
  refine rn ?_
  refine then_normal ?_
  refine cs_ rfl (fun hc => ?_) (fun hc => ?_)
  · first
    | (cases hc; done)
    | (
      refine awp_seq ?_
      refine awp_region ?_
      refine rv rfl rfl (?_)
      refine rv rfl rfl (?_)
      (first | refine gy rfl rfl rfl (rv rfl rfl (?_)) | refine gn rfl rfl rfl rfl rfl ?_ | refine gu rfl rfl rfl rfl ?_ | refine gs rfl rfl rfl rfl rfl (fun hg => rv rfl rfl (?_)) (fun hg => ?_)) <;> (
      (first | refine gy rfl rfl rfl (rv rfl rfl (?_)) | refine gn rfl rfl rfl rfl rfl ?_ | refine gu rfl rfl rfl rfl ?_ | refine gs rfl rfl rfl rfl rfl (fun hg => rv rfl rfl (?_)) (fun hg => ?_)) <;> (
      refine rv rfl rfl (?_)
      refine rv rfl rfl (?_)
      refine rn ?_
      refine then_normal ?_
      refine awp_ret ?_
      repeat (first | refine then_ret ?_ | refine inBlock_ret ?_)
      refine rr rfl rfl ?_
      first | rfl | (exfalso; simp_all; done))))
  · first
    | (cases hc; done)
    | (
      refine awp_skip ?_
      refine then_normal ?_
      refine awp_seq ?_
      (have h50 := le50 (by assumption)) <;> (
      refine awp_region ?_
      refine rv rfl rfl (?_)
      refine rn ?_
      refine then_normal ?_
      refine awp_seq ?_
      refine awp_region ?_
      refine rv rfl rfl (?_)
      refine rn ?_
      refine then_normal ?_
      refine awp_seq ?_
      refine awp_seq ?_
      refine awp_region ?_
      refine rv rfl rfl (?_)
      refine rn ?_
      refine then_normal ?_
      refine awp_block ?_
      refine awp_loopR (ι := Nat × Bs) (fun p => ⟨[(0, .sl (nR l)), (3, .bool true), (4, .ptr 0 0), (5, .sl (bR (catI l p.1))), (6, .sl (nR (gotI l p.1))), (7, .int .i64 (p.1 : Int))], [(0, 0, .own 1), (0, 1, .bool (badI l p.1))], [(1, .row 1 (bR p.2))], 2⟩) (fun p => rdI l p.1 p.2) (fun p => l.length - p.1) ((0, [])) (⟨⟨Nat.zero_le _, fun j hj => by omega⟩, fun _ => by simp [rstI, catI, parse_short], by simp⟩) ⟨[0, 1], rfl, ?_⟩ (fun p hp => ?_)
      · refine ⟨rfl, rfl, ?_, ?_, ?_⟩
        · refine ⟨⟨?_, rfl⟩, ?_⟩
          · first | exact .inl rfl | exact .inr rfl | (refine .inl ?_; (first | refine ei ?_ | refine eb ?_ | refine esl ?_ | refine estr ?_ | skip); first | exact W_succ hlt hl | (rw [hn.2.1]; exact hfb.symm) | (rw [hn.2.1]; assumption) | (rw [hn.1]; simp [nR]; done) | (simp [catI, gotI, badI, parse_short, nR, bR]; done)) | (refine .inr ?_; (first | refine ei ?_ | refine eb ?_ | refine esl ?_ | refine estr ?_ | skip); first | exact W_succ hlt hl | (rw [hn.2.1]; exact hfb.symm) | (rw [hn.2.1]; assumption) | (rw [hn.1]; simp [nR]; done) | (simp [catI, gotI, badI, parse_short, nR, bR]; done))
          refine ⟨⟨?_, rfl⟩, ?_⟩
          · first | exact .inl rfl | exact .inr rfl | (refine .inl ?_; (first | refine ei ?_ | refine eb ?_ | refine esl ?_ | refine estr ?_ | skip); first | exact W_succ hlt hl | (rw [hn.2.1]; exact hfb.symm) | (rw [hn.2.1]; assumption) | (rw [hn.1]; simp [nR]; done) | (simp [catI, gotI, badI, parse_short, nR, bR]; done)) | (refine .inr ?_; (first | refine ei ?_ | refine eb ?_ | refine esl ?_ | refine estr ?_ | skip); first | exact W_succ hlt hl | (rw [hn.2.1]; exact hfb.symm) | (rw [hn.2.1]; assumption) | (rw [hn.1]; simp [nR]; done) | (simp [catI, gotI, badI, parse_short, nR, bR]; done))
          refine ⟨⟨?_, rfl⟩, ?_⟩
          · first | exact .inl rfl | exact .inr rfl | (refine .inl ?_; (first | refine ei ?_ | refine eb ?_ | refine esl ?_ | refine estr ?_ | skip); first | exact W_succ hlt hl | (rw [hn.2.1]; exact hfb.symm) | (rw [hn.2.1]; assumption) | (rw [hn.1]; simp [nR]; done) | (simp [catI, gotI, badI, parse_short, nR, bR]; done)) | (refine .inr ?_; (first | refine ei ?_ | refine eb ?_ | refine esl ?_ | refine estr ?_ | skip); first | exact W_succ hlt hl | (rw [hn.2.1]; exact hfb.symm) | (rw [hn.2.1]; assumption) | (rw [hn.1]; simp [nR]; done) | (simp [catI, gotI, badI, parse_short, nR, bR]; done))
          refine ⟨⟨?_, rfl⟩, ?_⟩
          · first | exact .inl rfl | exact .inr rfl | (refine .inl ?_; (first | refine ei ?_ | refine eb ?_ | refine esl ?_ | refine estr ?_ | skip); first | exact W_succ hlt hl | (rw [hn.2.1]; exact hfb.symm) | (rw [hn.2.1]; assumption) | (rw [hn.1]; simp [nR]; done) | (simp [catI, gotI, badI, parse_short, nR, bR]; done)) | (refine .inr ?_; (first | refine ei ?_ | refine eb ?_ | refine esl ?_ | refine estr ?_ | skip); first | exact W_succ hlt hl | (rw [hn.2.1]; exact hfb.symm) | (rw [hn.2.1]; assumption) | (rw [hn.1]; simp [nR]; done) | (simp [catI, gotI, badI, parse_short, nR, bR]; done))
          refine ⟨⟨?_, rfl⟩, ?_⟩
          · first | exact .inl rfl | exact .inr rfl | (refine .inl ?_; (first | refine ei ?_ | refine eb ?_ | refine esl ?_ | refine estr ?_ | skip); first | exact W_succ hlt hl | (rw [hn.2.1]; exact hfb.symm) | (rw [hn.2.1]; assumption) | (rw [hn.1]; simp [nR]; done) | (simp [catI, gotI, badI, parse_short, nR, bR]; done)) | (refine .inr ?_; (first | refine ei ?_ | refine eb ?_ | refine esl ?_ | refine estr ?_ | skip); first | exact W_succ hlt hl | (rw [hn.2.1]; exact hfb.symm) | (rw [hn.2.1]; assumption) | (rw [hn.1]; simp [nR]; done) | (simp [catI, gotI, badI, parse_short, nR, bR]; done))
          refine ⟨⟨?_, rfl⟩, ?_⟩
          · first | exact .inl rfl | exact .inr rfl | (refine .inl ?_; (first | refine ei ?_ | refine eb ?_ | refine esl ?_ | refine estr ?_ | skip); first | exact W_succ hlt hl | (rw [hn.2.1]; exact hfb.symm) | (rw [hn.2.1]; assumption) | (rw [hn.1]; simp [nR]; done) | (simp [catI, gotI, badI, parse_short, nR, bR]; done)) | (refine .inr ?_; (first | refine ei ?_ | refine eb ?_ | refine esl ?_ | refine estr ?_ | skip); first | exact W_succ hlt hl | (rw [hn.2.1]; exact hfb.symm) | (rw [hn.2.1]; assumption) | (rw [hn.1]; simp [nR]; done) | (simp [catI, gotI, badI, parse_short, nR, bR]; done))
          exact trivial
        · refine ⟨⟨?_, rfl, rfl⟩, ?_⟩
          · first | exact ⟨_, rfl, .inl rfl⟩ | exact ⟨_, rfl, .inr rfl⟩ | (refine ⟨_, rfl, .inl ?_⟩; (first | refine ei ?_ | refine eb ?_ | refine esl ?_ | refine estr ?_ | skip); first | exact W_succ hlt hl | (rw [hn.2.1]; exact hfb.symm) | (rw [hn.2.1]; assumption) | (rw [hn.1]; simp [nR]; done) | (simp [catI, gotI, badI, parse_short, nR, bR]; done)) | (refine ⟨_, rfl, .inr ?_⟩; (first | refine ei ?_ | refine eb ?_ | refine esl ?_ | refine estr ?_ | skip); first | exact W_succ hlt hl | (rw [hn.2.1]; exact hfb.symm) | (rw [hn.2.1]; assumption) | (rw [hn.1]; simp [nR]; done) | (simp [catI, gotI, badI, parse_short, nR, bR]; done))
          refine ⟨⟨?_, rfl, rfl⟩, ?_⟩
          · first | exact ⟨_, rfl, .inl rfl⟩ | exact ⟨_, rfl, .inr rfl⟩ | (refine ⟨_, rfl, .inl ?_⟩; (first | refine ei ?_ | refine eb ?_ | refine esl ?_ | refine estr ?_ | skip); first | exact W_succ hlt hl | (rw [hn.2.1]; exact hfb.symm) | (rw [hn.2.1]; assumption) | (rw [hn.1]; simp [nR]; done) | (simp [catI, gotI, badI, parse_short, nR, bR]; done)) | (refine ⟨_, rfl, .inr ?_⟩; (first | refine ei ?_ | refine eb ?_ | refine esl ?_ | refine estr ?_ | skip); first | exact W_succ hlt hl | (rw [hn.2.1]; exact hfb.symm) | (rw [hn.2.1]; assumption) | (rw [hn.1]; simp [nR]; done) | (simp [catI, gotI, badI, parse_short, nR, bR]; done))
          exact trivial
        · refine ⟨orow rfl ?_ rfl, ?_⟩
          · first | rfl | (first | exact W_succ hlt hl | (rw [hn.2.1]; exact hfb.symm) | (rw [hn.2.1]; assumption) | (rw [hn.1]; simp [nR]; done) | (simp [catI, gotI, badI, parse_short, nR, bR]; done))
          exact trivial
      refine awp_seq ?_
      refine awp_seq ?_
      refine awp_region ?_
      refine rv rfl rfl (?_)
      refine rv rfl rfl (?_)
      refine rv rfl rfl (?_)
      refine rv rfl rfl (?_)
      refine rn ?_
      refine then_normal ?_
      refine cs_ rfl (fun hc => ?_) (fun hc => ?_)
      · first
        | (cases hc; done)
        | (
          refine awp_skip ?_
          refine then_normal ?_
          refine awp_seq ?_
          refine awp_block ?_
          refine awp_seq ?_
          refine awp_seq ?_
          (have hlt : p.1 < l.length := by { have := lt_of_dec (by assumption); rwa [nR_length] at this }) <;> (
          refine awp_region ?_
          refine rv rfl rfl (?_)
          refine rv rfl rfl (?_)
          refine ri rfl rfl rfl rfl rfl rfl (Int.natCast_nonneg _) (nR_get hlt) (nR_plain _).wide (?_)
          refine rv rfl rfl (?_)
          refine rv rfl rfl (?_)
          refine rv rfl rfl (?_)
          refine rn ?_
          refine then_normal ?_
          refine cs_ rfl (fun hc => ?_) (fun hc => ?_)
          · first
            | (cases hc; done)
            | (
              refine awp_seq ?_
              refine awp_region ?_
              refine rv rfl rfl (?_)
              refine rv rfl rfl (?_)
              refine rn ?_
              refine then_normal ?_
              refine awp_ret ?_
              repeat (first | refine then_ret ?_ | refine inBlock_ret ?_)
              refine rr rfl rfl ?_
              first | rfl | (exfalso; simp_all; done))
          · first
            | (cases hc; done)
            | (
              refine awp_skip ?_
              refine then_normal ?_
              refine awp_seq ?_
              (have hs := le10 (by assumption); have hn := feed_next hp hlt hs; have h3 := three (badI l (p.1 + 1)) (feedR (badI l p.1) p.2 l[p.1]); rw [hn.2.1] at h3; have hsm := small_len hp.1; have hgl := got_len l p.1; rcases h3 with ⟨hfb, hk⟩ | ⟨hfb, hk⟩ | ⟨hfb, hk⟩ <;> rw [hfb] at hk) <;> (
              refine awp_region ?_
              refine rbs true rfl rfl rfl rfl rfl rfl rfl rfl rfl rfl (?_)
              refine rv rfl rfl (?_)
              refine rv rfl rfl (?_)
              refine ri rfl rfl rfl rfl rfl rfl (Int.natCast_nonneg _) (nR_get hlt) (nR_plain _).wide (?_)
              refine rv rfl rfl (?_)
              refine rap true rfl rfl rfl rfl rfl rfl rfl (.own rfl rfl) (.sl rfl rfl rfl) (bR_plain _).wide (bR_plain _).ones (by show (_ + _) * 1 ≤ _; rw [bR_length]; simp; omega) rfl (?_)
              refine rv rfl rfl (?_)
              refine rn ?_
              refine then_normal ?_
              refine awp_seq ?_
              refine awp_region ?_
              refine rbs false rfl rfl rfl rfl rfl rfl rfl rfl rfl rfl (?_)
              refine rv rfl rfl (?_)
              refine rap false rfl rfl rfl rfl rfl rfl rfl (.own rfl rfl) (.sl rfl rfl rfl) (bR_plain _).wide (bR_plain _).ones (by show (_ + _) * 1 ≤ _; rw [bR_length]; simp; omega) rfl (?_)
              refine rv rfl rfl (?_)
              refine rap false rfl rfl rfl rfl rfl rfl rfl (.own rfl rfl) (.own0 (bR_plain _).lim rfl rfl rfl rfl) (bR_plain _).wide (bR_plain _).ones (by show (_ + _) * 1 ≤ _; rw [List.nil_append, bR_length, bR_length]; omega) rfl (?_)
              refine rv rfl rfl (?_)
              refine rn ?_
              refine then_normal ?_
              refine awp_seq ?_
              refine awp_region ?_
              refine rv rfl rfl (?_)
              refine rv rfl rfl (?_)
              refine rh [0, 1, 3] rfl rfl (feedw_c (by simp only [List.length_append]; have := hp.2.2; omega) hfb) rfl rfl rfl (by repeat (first | exact trivial | refine ⟨⟨⟨_, rfl, .inl rfl⟩, rfl, rfl⟩, ?_⟩ | refine ⟨⟨⟨_, rfl, .inr rfl⟩, rfl, rfl⟩, ?_⟩)) (by repeat (first | exact trivial | refine ⟨⟨⟨_, rfl, by first | exact .row | exact .wr (bR_plain _).lim⟩, rfl⟩, ?_⟩)) ?_; rintro _ _ _ _ ⟨rfl, rfl, rfl, rfl⟩; simp only [renO, List.map_cons, List.map_nil, ren_wr]; refine as1 rfl ?_; refine ae rfl rfl rfl ?_
              refine rv rfl rfl (?_)
              refine rv rfl rfl (?_)
              refine rv rfl rfl (?_)
              refine rv rfl rfl (?_)
              refine rv rfl rfl (?_)
              refine rn ?_
              refine then_normal ?_
              refine awp_seq ?_
              refine awp_seq ?_
              refine awp_region ?_
              refine rv rfl rfl (?_)
              refine rn ?_
              refine then_normal ?_
              refine awp_block ?_
              refine awp_loopR (ι := Nat × List Int) (fun q => ⟨[(0, .sl (nR l)), (3, .bool true), (4, .ptr 0 0), (5, .sl (bR (catI l (p.1 + 1)))), (6, .sl (nR (gotI l p.1))), (7, .int .i64 (p.1 : Int)), (8, .own 2), (9, .sl (nR (feedO (badI l p.1) p.2 l[p.1]))), (10, errB (feedB (badI l p.1) p.2 l[p.1]) 5), (11, .int .i64 (q.1 : Int))], [(0, 0, .own 1), (0, 1, .bool (feedB (badI l p.1) p.2 l[p.1]))], [(1, .row 1 (bR (feedR (badI l p.1) p.2 l[p.1]))), (2, .wr 1 (iR q.2))], 3⟩) (fun q => q.2.length ≤ 10000) (fun q => 10000 - q.1) ((0, l[p.1].map fun c => (c.toNat : Int))) (by simpa using hs) ⟨[0, 7, 3], rfl, ?_⟩ (fun q hq => ?_)
              · refine ⟨rfl, rfl, ?_, ?_, ?_⟩
                · refine ⟨⟨?_, by first | rfl | exact errB_lim _ _ _⟩, ?_⟩
                  · first | exact .inl rfl | exact .inr rfl | (refine .inl ?_; (first | refine ei ?_ | refine eb ?_ | refine esl ?_ | refine estr ?_ | skip); first | exact hfb.symm | (rw [errB_ren, hfb]; rfl) | exact code_big (by omega) | exact iR_set _ _ _ _ | exact iR_of _ | (rw [cat_succ hlt]; simp [bR]; done)) | (refine .inr ?_; (first | refine ei ?_ | refine eb ?_ | refine esl ?_ | refine estr ?_ | skip); first | exact hfb.symm | (rw [errB_ren, hfb]; rfl) | exact code_big (by omega) | exact iR_set _ _ _ _ | exact iR_of _ | (rw [cat_succ hlt]; simp [bR]; done))
                  refine ⟨⟨?_, by first | rfl | exact errB_lim _ _ _⟩, ?_⟩
                  · first | exact .inl rfl | exact .inr rfl | (refine .inl ?_; (first | refine ei ?_ | refine eb ?_ | refine esl ?_ | refine estr ?_ | skip); first | exact hfb.symm | (rw [errB_ren, hfb]; rfl) | exact code_big (by omega) | exact iR_set _ _ _ _ | exact iR_of _ | (rw [cat_succ hlt]; simp [bR]; done)) | (refine .inr ?_; (first | refine ei ?_ | refine eb ?_ | refine esl ?_ | refine estr ?_ | skip); first | exact hfb.symm | (rw [errB_ren, hfb]; rfl) | exact code_big (by omega) | exact iR_set _ _ _ _ | exact iR_of _ | (rw [cat_succ hlt]; simp [bR]; done))
                  refine ⟨⟨?_, by first | rfl | exact errB_lim _ _ _⟩, ?_⟩
                  · first | exact .inl rfl | exact .inr rfl | (refine .inl ?_; (first | refine ei ?_ | refine eb ?_ | refine esl ?_ | refine estr ?_ | skip); first | exact hfb.symm | (rw [errB_ren, hfb]; rfl) | exact code_big (by omega) | exact iR_set _ _ _ _ | exact iR_of _ | (rw [cat_succ hlt]; simp [bR]; done)) | (refine .inr ?_; (first | refine ei ?_ | refine eb ?_ | refine esl ?_ | refine estr ?_ | skip); first | exact hfb.symm | (rw [errB_ren, hfb]; rfl) | exact code_big (by omega) | exact iR_set _ _ _ _ | exact iR_of _ | (rw [cat_succ hlt]; simp [bR]; done))
                  refine ⟨⟨?_, by first | rfl | exact errB_lim _ _ _⟩, ?_⟩
                  · first | exact .inl rfl | exact .inr rfl | (refine .inl ?_; (first | refine ei ?_ | refine eb ?_ | refine esl ?_ | refine estr ?_ | skip); first | exact hfb.symm | (rw [errB_ren, hfb]; rfl) | exact code_big (by omega) | exact iR_set _ _ _ _ | exact iR_of _ | (rw [cat_succ hlt]; simp [bR]; done)) | (refine .inr ?_; (first | refine ei ?_ | refine eb ?_ | refine esl ?_ | refine estr ?_ | skip); first | exact hfb.symm | (rw [errB_ren, hfb]; rfl) | exact code_big (by omega) | exact iR_set _ _ _ _ | exact iR_of _ | (rw [cat_succ hlt]; simp [bR]; done))
                  refine ⟨⟨?_, by first | rfl | exact errB_lim _ _ _⟩, ?_⟩
                  · first | exact .inl rfl | exact .inr rfl | (refine .inl ?_; (first | refine ei ?_ | refine eb ?_ | refine esl ?_ | refine estr ?_ | skip); first | exact hfb.symm | (rw [errB_ren, hfb]; rfl) | exact code_big (by omega) | exact iR_set _ _ _ _ | exact iR_of _ | (rw [cat_succ hlt]; simp [bR]; done)) | (refine .inr ?_; (first | refine ei ?_ | refine eb ?_ | refine esl ?_ | refine estr ?_ | skip); first | exact hfb.symm | (rw [errB_ren, hfb]; rfl) | exact code_big (by omega) | exact iR_set _ _ _ _ | exact iR_of _ | (rw [cat_succ hlt]; simp [bR]; done))
                  refine ⟨⟨?_, by first | rfl | exact errB_lim _ _ _⟩, ?_⟩
                  · first | exact .inl rfl | exact .inr rfl | (refine .inl ?_; (first | refine ei ?_ | refine eb ?_ | refine esl ?_ | refine estr ?_ | skip); first | exact hfb.symm | (rw [errB_ren, hfb]; rfl) | exact code_big (by omega) | exact iR_set _ _ _ _ | exact iR_of _ | (rw [cat_succ hlt]; simp [bR]; done)) | (refine .inr ?_; (first | refine ei ?_ | refine eb ?_ | refine esl ?_ | refine estr ?_ | skip); first | exact hfb.symm | (rw [errB_ren, hfb]; rfl) | exact code_big (by omega) | exact iR_set _ _ _ _ | exact iR_of _ | (rw [cat_succ hlt]; simp [bR]; done))
                  refine ⟨⟨?_, by first | rfl | exact errB_lim _ _ _⟩, ?_⟩
                  · first | exact .inl rfl | exact .inr rfl | (refine .inl ?_; (first | refine ei ?_ | refine eb ?_ | refine esl ?_ | refine estr ?_ | skip); first | exact hfb.symm | (rw [errB_ren, hfb]; rfl) | exact code_big (by omega) | exact iR_set _ _ _ _ | exact iR_of _ | (rw [cat_succ hlt]; simp [bR]; done)) | (refine .inr ?_; (first | refine ei ?_ | refine eb ?_ | refine esl ?_ | refine estr ?_ | skip); first | exact hfb.symm | (rw [errB_ren, hfb]; rfl) | exact code_big (by omega) | exact iR_set _ _ _ _ | exact iR_of _ | (rw [cat_succ hlt]; simp [bR]; done))
                  refine ⟨⟨?_, by first | rfl | exact errB_lim _ _ _⟩, ?_⟩
                  · first | exact .inl rfl | exact .inr rfl | (refine .inl ?_; (first | refine ei ?_ | refine eb ?_ | refine esl ?_ | refine estr ?_ | skip); first | exact hfb.symm | (rw [errB_ren, hfb]; rfl) | exact code_big (by omega) | exact iR_set _ _ _ _ | exact iR_of _ | (rw [cat_succ hlt]; simp [bR]; done)) | (refine .inr ?_; (first | refine ei ?_ | refine eb ?_ | refine esl ?_ | refine estr ?_ | skip); first | exact hfb.symm | (rw [errB_ren, hfb]; rfl) | exact code_big (by omega) | exact iR_set _ _ _ _ | exact iR_of _ | (rw [cat_succ hlt]; simp [bR]; done))
                  refine ⟨⟨?_, by first | rfl | exact errB_lim _ _ _⟩, ?_⟩
                  · first | exact .inl rfl | exact .inr rfl | (refine .inl ?_; (first | refine ei ?_ | refine eb ?_ | refine esl ?_ | refine estr ?_ | skip); first | exact hfb.symm | (rw [errB_ren, hfb]; rfl) | exact code_big (by omega) | exact iR_set _ _ _ _ | exact iR_of _ | (rw [cat_succ hlt]; simp [bR]; done)) | (refine .inr ?_; (first | refine ei ?_ | refine eb ?_ | refine esl ?_ | refine estr ?_ | skip); first | exact hfb.symm | (rw [errB_ren, hfb]; rfl) | exact code_big (by omega) | exact iR_set _ _ _ _ | exact iR_of _ | (rw [cat_succ hlt]; simp [bR]; done))
                  refine ⟨⟨?_, by first | rfl | exact errB_lim _ _ _⟩, ?_⟩
                  · first | exact .inl rfl | exact .inr rfl | (refine .inl ?_; (first | refine ei ?_ | refine eb ?_ | refine esl ?_ | refine estr ?_ | skip); first | exact hfb.symm | (rw [errB_ren, hfb]; rfl) | exact code_big (by omega) | exact iR_set _ _ _ _ | exact iR_of _ | (rw [cat_succ hlt]; simp [bR]; done)) | (refine .inr ?_; (first | refine ei ?_ | refine eb ?_ | refine esl ?_ | refine estr ?_ | skip); first | exact hfb.symm | (rw [errB_ren, hfb]; rfl) | exact code_big (by omega) | exact iR_set _ _ _ _ | exact iR_of _ | (rw [cat_succ hlt]; simp [bR]; done))
                  exact trivial
                · refine ⟨⟨?_, by first | rfl | exact errB_lim _ _ _, rfl⟩, ?_⟩
                  · first | exact ⟨_, rfl, .inl rfl⟩ | exact ⟨_, rfl, .inr rfl⟩ | (refine ⟨_, rfl, .inl ?_⟩; (first | refine ei ?_ | refine eb ?_ | refine esl ?_ | refine estr ?_ | skip); first | exact hfb.symm | (rw [errB_ren, hfb]; rfl) | exact code_big (by omega) | exact iR_set _ _ _ _ | exact iR_of _ | (rw [cat_succ hlt]; simp [bR]; done)) | (refine ⟨_, rfl, .inr ?_⟩; (first | refine ei ?_ | refine eb ?_ | refine esl ?_ | refine estr ?_ | skip); first | exact hfb.symm | (rw [errB_ren, hfb]; rfl) | exact code_big (by omega) | exact iR_set _ _ _ _ | exact iR_of _ | (rw [cat_succ hlt]; simp [bR]; done))
                  refine ⟨⟨?_, by first | rfl | exact errB_lim _ _ _, rfl⟩, ?_⟩
                  · first | exact ⟨_, rfl, .inl rfl⟩ | exact ⟨_, rfl, .inr rfl⟩ | (refine ⟨_, rfl, .inl ?_⟩; (first | refine ei ?_ | refine eb ?_ | refine esl ?_ | refine estr ?_ | skip); first | exact hfb.symm | (rw [errB_ren, hfb]; rfl) | exact code_big (by omega) | exact iR_set _ _ _ _ | exact iR_of _ | (rw [cat_succ hlt]; simp [bR]; done)) | (refine ⟨_, rfl, .inr ?_⟩; (first | refine ei ?_ | refine eb ?_ | refine esl ?_ | refine estr ?_ | skip); first | exact hfb.symm | (rw [errB_ren, hfb]; rfl) | exact code_big (by omega) | exact iR_set _ _ _ _ | exact iR_of _ | (rw [cat_succ hlt]; simp [bR]; done))
                  exact trivial
                · refine ⟨orow rfl ?_ rfl, ?_⟩
                  · first | rfl | (first | exact hfb.symm | (rw [errB_ren, hfb]; rfl) | exact code_big (by omega) | exact iR_set _ _ _ _ | exact iR_of _ | (rw [cat_succ hlt]; simp [bR]; done))
                  refine ⟨owr rfl ?_ ((iR_plain _).lim) rfl, ?_⟩
                  · first | rfl | (first | exact hfb.symm | (rw [errB_ren, hfb]; rfl) | exact code_big (by omega) | exact iR_set _ _ _ _ | exact iR_of _ | (rw [cat_succ hlt]; simp [bR]; done))
                  exact trivial
              refine awp_seq ?_
              refine awp_seq ?_
              refine awp_region ?_
              refine rv rfl rfl (?_)
              refine rv rfl rfl (?_)
              refine rV rfl (va_len rfl rfl rfl rfl) (?_)
              refine rv rfl rfl (?_)
              refine rn ?_
              refine then_normal ?_
              refine cs_ rfl (fun hc => ?_) (fun hc => ?_)
              · first
                | (cases hc; done)
                | (
                  refine awp_skip ?_
                  refine then_normal ?_
                  refine awp_seq ?_
                  refine awp_block ?_
                  (have hq2 := lt_iR (by assumption)) <;> (
                  refine awp_region ?_
                  refine rv rfl rfl (?_)
                  refine rv rfl rfl (?_)
                  refine rv rfl rfl (?_)
                  refine rv rfl rfl (?_)
                  refine rV rfl (va_place rfl rfl rfl rfl rfl rfl rfl (Int.natCast_nonneg _) (by simpa [iR] using hq2)) (?_)
                  refine rV rfl (va_loadE rfl rfl rfl (iR_get hq2) rfl rfl) (?_)
                  refine rv rfl rfl (?_)
                  refine rV rfl (va_place rfl rfl rfl rfl rfl rfl rfl (Int.natCast_nonneg _) (by simpa [iR] using hq2)) (?_)
                  refine rse rfl rfl rfl (iR_get hq2) rfl rfl rfl rfl rfl (?_)
                  refine rn ?_
                  refine inBlock_normal ?_
                  refine then_normal ?_
                  refine awp_region ?_
                  refine rv rfl rfl (?_)
                  refine rv rfl rfl (?_)
                  refine rv rfl rfl (?_)
                  refine rn ?_
                  refine then_normal ?_
                  refine ⟨(q.1 + 1, q.2.set q.1 (IntKind.wrap .u8 (q.2[q.1] + 1))), by simpa using hq, by show 10000 - (q.1 + 1) < _; omega, [0, 1, 2], rfl, ?_⟩
                  refine ⟨rfl, rfl, ?_, ?_, ?_⟩
                  · refine ⟨⟨?_, by first | rfl | exact errB_lim _ _ _⟩, ?_⟩
                    · first | exact .inl rfl | exact .inr rfl | (refine .inl ?_; (first | refine ei ?_ | refine eb ?_ | refine esl ?_ | refine estr ?_ | skip); first | exact hfb.symm | (rw [errB_ren, hfb]; rfl) | exact code_big (by omega) | exact iR_set _ _ _ _ | exact iR_of _ | (rw [cat_succ hlt]; simp [bR]; done)) | (refine .inr ?_; (first | refine ei ?_ | refine eb ?_ | refine esl ?_ | refine estr ?_ | skip); first | exact hfb.symm | (rw [errB_ren, hfb]; rfl) | exact code_big (by omega) | exact iR_set _ _ _ _ | exact iR_of _ | (rw [cat_succ hlt]; simp [bR]; done))
                    refine ⟨⟨?_, by first | rfl | exact errB_lim _ _ _⟩, ?_⟩
                    · first | exact .inl rfl | exact .inr rfl | (refine .inl ?_; (first | refine ei ?_ | refine eb ?_ | refine esl ?_ | refine estr ?_ | skip); first | exact hfb.symm | (rw [errB_ren, hfb]; rfl) | exact code_big (by omega) | exact iR_set _ _ _ _ | exact iR_of _ | (rw [cat_succ hlt]; simp [bR]; done)) | (refine .inr ?_; (first | refine ei ?_ | refine eb ?_ | refine esl ?_ | refine estr ?_ | skip); first | exact hfb.symm | (rw [errB_ren, hfb]; rfl) | exact code_big (by omega) | exact iR_set _ _ _ _ | exact iR_of _ | (rw [cat_succ hlt]; simp [bR]; done))
                    refine ⟨⟨?_, by first | rfl | exact errB_lim _ _ _⟩, ?_⟩
                    · first | exact .inl rfl | exact .inr rfl | (refine .inl ?_; (first | refine ei ?_ | refine eb ?_ | refine esl ?_ | refine estr ?_ | skip); first | exact hfb.symm | (rw [errB_ren, hfb]; rfl) | exact code_big (by omega) | exact iR_set _ _ _ _ | exact iR_of _ | (rw [cat_succ hlt]; simp [bR]; done)) | (refine .inr ?_; (first | refine ei ?_ | refine eb ?_ | refine esl ?_ | refine estr ?_ | skip); first | exact hfb.symm | (rw [errB_ren, hfb]; rfl) | exact code_big (by omega) | exact iR_set _ _ _ _ | exact iR_of _ | (rw [cat_succ hlt]; simp [bR]; done))
                    refine ⟨⟨?_, by first | rfl | exact errB_lim _ _ _⟩, ?_⟩
                    · first | exact .inl rfl | exact .inr rfl | (refine .inl ?_; (first | refine ei ?_ | refine eb ?_ | refine esl ?_ | refine estr ?_ | skip); first | exact hfb.symm | (rw [errB_ren, hfb]; rfl) | exact code_big (by omega) | exact iR_set _ _ _ _ | exact iR_of _ | (rw [cat_succ hlt]; simp [bR]; done)) | (refine .inr ?_; (first | refine ei ?_ | refine eb ?_ | refine esl ?_ | refine estr ?_ | skip); first | exact hfb.symm | (rw [errB_ren, hfb]; rfl) | exact code_big (by omega) | exact iR_set _ _ _ _ | exact iR_of _ | (rw [cat_succ hlt]; simp [bR]; done))
                    refine ⟨⟨?_, by first | rfl | exact errB_lim _ _ _⟩, ?_⟩
                    · first | exact .inl rfl | exact .inr rfl | (refine .inl ?_; (first | refine ei ?_ | refine eb ?_ | refine esl ?_ | refine estr ?_ | skip); first | exact hfb.symm | (rw [errB_ren, hfb]; rfl) | exact code_big (by omega) | exact iR_set _ _ _ _ | exact iR_of _ | (rw [cat_succ hlt]; simp [bR]; done)) | (refine .inr ?_; (first | refine ei ?_ | refine eb ?_ | refine esl ?_ | refine estr ?_ | skip); first | exact hfb.symm | (rw [errB_ren, hfb]; rfl) | exact code_big (by omega) | exact iR_set _ _ _ _ | exact iR_of _ | (rw [cat_succ hlt]; simp [bR]; done))
                    refine ⟨⟨?_, by first | rfl | exact errB_lim _ _ _⟩, ?_⟩
                    · first | exact .inl rfl | exact .inr rfl | (refine .inl ?_; (first | refine ei ?_ | refine eb ?_ | refine esl ?_ | refine estr ?_ | skip); first | exact hfb.symm | (rw [errB_ren, hfb]; rfl) | exact code_big (by omega) | exact iR_set _ _ _ _ | exact iR_of _ | (rw [cat_succ hlt]; simp [bR]; done)) | (refine .inr ?_; (first | refine ei ?_ | refine eb ?_ | refine esl ?_ | refine estr ?_ | skip); first | exact hfb.symm | (rw [errB_ren, hfb]; rfl) | exact code_big (by omega) | exact iR_set _ _ _ _ | exact iR_of _ | (rw [cat_succ hlt]; simp [bR]; done))
                    refine ⟨⟨?_, by first | rfl | exact errB_lim _ _ _⟩, ?_⟩
                    · first | exact .inl rfl | exact .inr rfl | (refine .inl ?_; (first | refine ei ?_ | refine eb ?_ | refine esl ?_ | refine estr ?_ | skip); first | exact hfb.symm | (rw [errB_ren, hfb]; rfl) | exact code_big (by omega) | exact iR_set _ _ _ _ | exact iR_of _ | (rw [cat_succ hlt]; simp [bR]; done)) | (refine .inr ?_; (first | refine ei ?_ | refine eb ?_ | refine esl ?_ | refine estr ?_ | skip); first | exact hfb.symm | (rw [errB_ren, hfb]; rfl) | exact code_big (by omega) | exact iR_set _ _ _ _ | exact iR_of _ | (rw [cat_succ hlt]; simp [bR]; done))
                    refine ⟨⟨?_, by first | rfl | exact errB_lim _ _ _⟩, ?_⟩
                    · first | exact .inl rfl | exact .inr rfl | (refine .inl ?_; (first | refine ei ?_ | refine eb ?_ | refine esl ?_ | refine estr ?_ | skip); first | exact hfb.symm | (rw [errB_ren, hfb]; rfl) | exact code_big (by omega) | exact iR_set _ _ _ _ | exact iR_of _ | (rw [cat_succ hlt]; simp [bR]; done)) | (refine .inr ?_; (first | refine ei ?_ | refine eb ?_ | refine esl ?_ | refine estr ?_ | skip); first | exact hfb.symm | (rw [errB_ren, hfb]; rfl) | exact code_big (by omega) | exact iR_set _ _ _ _ | exact iR_of _ | (rw [cat_succ hlt]; simp [bR]; done))
                    refine ⟨⟨?_, by first | rfl | exact errB_lim _ _ _⟩, ?_⟩
                    · first | exact .inl rfl | exact .inr rfl | (refine .inl ?_; (first | refine ei ?_ | refine eb ?_ | refine esl ?_ | refine estr ?_ | skip); first | exact hfb.symm | (rw [errB_ren, hfb]; rfl) | exact code_big (by omega) | exact iR_set _ _ _ _ | exact iR_of _ | (rw [cat_succ hlt]; simp [bR]; done)) | (refine .inr ?_; (first | refine ei ?_ | refine eb ?_ | refine esl ?_ | refine estr ?_ | skip); first | exact hfb.symm | (rw [errB_ren, hfb]; rfl) | exact code_big (by omega) | exact iR_set _ _ _ _ | exact iR_of _ | (rw [cat_succ hlt]; simp [bR]; done))
                    refine ⟨⟨?_, by first | rfl | exact errB_lim _ _ _⟩, ?_⟩
                    · first | exact .inl rfl | exact .inr rfl | (refine .inl ?_; (first | refine ei ?_ | refine eb ?_ | refine esl ?_ | refine estr ?_ | skip); first | exact hfb.symm | (rw [errB_ren, hfb]; rfl) | exact code_big (by omega) | exact iR_set _ _ _ _ | exact iR_of _ | (rw [cat_succ hlt]; simp [bR]; done)) | (refine .inr ?_; (first | refine ei ?_ | refine eb ?_ | refine esl ?_ | refine estr ?_ | skip); first | exact hfb.symm | (rw [errB_ren, hfb]; rfl) | exact code_big (by omega) | exact iR_set _ _ _ _ | exact iR_of _ | (rw [cat_succ hlt]; simp [bR]; done))
                    exact trivial
                  · refine ⟨⟨?_, by first | rfl | exact errB_lim _ _ _, rfl⟩, ?_⟩
                    · first | exact ⟨_, rfl, .inl rfl⟩ | exact ⟨_, rfl, .inr rfl⟩ | (refine ⟨_, rfl, .inl ?_⟩; (first | refine ei ?_ | refine eb ?_ | refine esl ?_ | refine estr ?_ | skip); first | exact hfb.symm | (rw [errB_ren, hfb]; rfl) | exact code_big (by omega) | exact iR_set _ _ _ _ | exact iR_of _ | (rw [cat_succ hlt]; simp [bR]; done)) | (refine ⟨_, rfl, .inr ?_⟩; (first | refine ei ?_ | refine eb ?_ | refine esl ?_ | refine estr ?_ | skip); first | exact hfb.symm | (rw [errB_ren, hfb]; rfl) | exact code_big (by omega) | exact iR_set _ _ _ _ | exact iR_of _ | (rw [cat_succ hlt]; simp [bR]; done))
                    refine ⟨⟨?_, by first | rfl | exact errB_lim _ _ _, rfl⟩, ?_⟩
                    · first | exact ⟨_, rfl, .inl rfl⟩ | exact ⟨_, rfl, .inr rfl⟩ | (refine ⟨_, rfl, .inl ?_⟩; (first | refine ei ?_ | refine eb ?_ | refine esl ?_ | refine estr ?_ | skip); first | exact hfb.symm | (rw [errB_ren, hfb]; rfl) | exact code_big (by omega) | exact iR_set _ _ _ _ | exact iR_of _ | (rw [cat_succ hlt]; simp [bR]; done)) | (refine ⟨_, rfl, .inr ?_⟩; (first | refine ei ?_ | refine eb ?_ | refine esl ?_ | refine estr ?_ | skip); first | exact hfb.symm | (rw [errB_ren, hfb]; rfl) | exact code_big (by omega) | exact iR_set _ _ _ _ | exact iR_of _ | (rw [cat_succ hlt]; simp [bR]; done))
                    exact trivial
                  · refine ⟨orow rfl ?_ rfl, ?_⟩
                    · first | rfl | (first | exact hfb.symm | (rw [errB_ren, hfb]; rfl) | exact code_big (by omega) | exact iR_set _ _ _ _ | exact iR_of _ | (rw [cat_succ hlt]; simp [bR]; done))
                    refine ⟨owr rfl ?_ ((iR_plain _).lim) rfl, ?_⟩
                    · first | rfl | (first | exact hfb.symm | (rw [errB_ren, hfb]; rfl) | exact code_big (by omega) | exact iR_set _ _ _ _ | exact iR_of _ | (rw [cat_succ hlt]; simp [bR]; done))
                    exact trivial))
              · first
                | (cases hc; done)
                | (
                  refine awp_exit ?_
                  repeat (first | refine then_exit ?_ | refine inBlock_other rfl ?_)
                  refine inBlock_exit ?_
                  refine then_normal ?_
                  refine awp_seq ?_
                  (have hc3 := (ref_end hn.2.2); rw [hn.2.1, hfb, hk] at hc3; rw [hfb]) <;> (
                  refine awp_region ?_
                  refine rbs false rfl rfl rfl rfl rfl rfl rfl rfl rfl rfl (?_)
                  refine rv rfl rfl (?_)
                  refine rap false rfl rfl rfl rfl rfl rfl rfl (.own rfl rfl) (.sl rfl rfl rfl) (nR_plain _).wide (nR_plain _).ones (by show (_ + _) * 24 ≤ _; rw [nR_length]; simp; omega) rfl (?_)
                  refine rv rfl rfl (?_)
                  refine rap false rfl rfl rfl rfl rfl rfl rfl (.own rfl rfl) (.sl rfl rfl rfl) (nR_plain _).wide (nR_plain _).ones (by show (_ + _) * 24 ≤ _; rw [List.nil_append, nR_length, nR_length]; have := congrArg List.length hn.1; have := got_len l (p.1 + 1); have := small_len hn.2.2.1; simp only [List.length_append] at *; omega) rfl (?_)
                  refine rv rfl rfl (?_)
                  refine rn ?_
                  refine then_normal ?_
                  refine awp_seq ?_
                  refine awp_region ?_
                  refine rv rfl rfl (?_)
                  refine rc1 rfl rfl rfl (frames_y (by have := small_len hn.2.2.1; omega) hc3) (?_)
                  refine rv rfl rfl (?_)
                  refine rv rfl rfl (?_)
                  refine rv rfl rfl (?_)
                  refine rv rfl rfl (?_)
                  refine rv rfl rfl (?_)
                  refine rn ?_
                  refine then_normal ?_
                  refine awp_seq ?_
                  refine awp_region ?_
                  refine rv rfl rfl (?_)
                  refine rv rfl rfl (?_)
                  refine rc1 rfl rfl rfl (whole_y (by have := got_len l (p.1 + 1); rw [← hn.1]; have := small_len hn.2.2.1; unfold maxLen; omega) hn.1) (?_)
                  refine rv rfl rfl (?_)
                  refine rv rfl rfl (?_)
                  (first | refine gy rfl rfl rfl (rv rfl rfl (?_)) | refine gn rfl rfl rfl rfl rfl ?_ | refine gu rfl rfl rfl rfl ?_ | refine gs rfl rfl rfl rfl rfl (fun hg => rv rfl rfl (?_)) (fun hg => ?_)) <;> (
                  (first | refine gy rfl rfl rfl (rv rfl rfl (?_)) | refine gn rfl rfl rfl rfl rfl ?_ | refine gu rfl rfl rfl rfl ?_ | refine gs rfl rfl rfl rfl rfl (fun hg => rv rfl rfl (?_)) (fun hg => ?_)) <;> (
                  (first | refine gy rfl rfl rfl (rv rfl rfl (?_)) | refine gn rfl rfl rfl rfl rfl ?_ | refine gu rfl rfl rfl rfl ?_ | refine gs rfl rfl rfl rfl rfl (fun hg => rv rfl rfl (?_)) (fun hg => ?_)) <;> (
                  (first | refine gy rfl rfl rfl (rv rfl rfl (?_)) | refine gn rfl rfl rfl rfl rfl ?_ | refine gu rfl rfl rfl rfl ?_ | refine gs rfl rfl rfl rfl rfl (fun hg => rv rfl rfl (?_)) (fun hg => ?_)) <;> (
                  (first | refine gy rfl rfl rfl (rv rfl rfl (?_)) | refine gn rfl rfl rfl rfl rfl ?_ | refine gu rfl rfl rfl rfl ?_ | refine gs rfl rfl rfl rfl rfl (fun hg => rv rfl rfl (?_)) (fun hg => ?_)) <;> (
                  refine rv rfl rfl (?_)
                  refine rv rfl rfl (?_)
                  (first | refine gy rfl rfl rfl (rv rfl rfl (?_)) | refine gn rfl rfl rfl rfl rfl ?_ | refine gu rfl rfl rfl rfl ?_ | refine gs rfl rfl rfl rfl rfl (fun hg => rv rfl rfl (?_)) (fun hg => ?_)) <;> (
                  (first | refine gy rfl rfl rfl (rv rfl rfl (?_)) | refine gn rfl rfl rfl rfl rfl ?_ | refine gu rfl rfl rfl rfl ?_ | refine gs rfl rfl rfl rfl rfl (fun hg => rv rfl rfl (?_)) (fun hg => ?_)) <;> (
                  (first | refine gy rfl rfl rfl (rv rfl rfl (?_)) | refine gn rfl rfl rfl rfl rfl ?_ | refine gu rfl rfl rfl rfl ?_ | refine gs rfl rfl rfl rfl rfl (fun hg => rv rfl rfl (?_)) (fun hg => ?_)) <;> (
                  (first | refine gy rfl rfl rfl (rv rfl rfl (?_)) | refine gn rfl rfl rfl rfl rfl ?_ | refine gu rfl rfl rfl rfl ?_ | refine gs rfl rfl rfl rfl rfl (fun hg => rv rfl rfl (?_)) (fun hg => ?_)) <;> (
                  (first | refine gy rfl rfl rfl (rv rfl rfl (?_)) | refine gn rfl rfl rfl rfl rfl ?_ | refine gu rfl rfl rfl rfl ?_ | refine gs rfl rfl rfl rfl rfl (fun hg => rv rfl rfl (?_)) (fun hg => ?_)) <;> (
                  (first | refine gy rfl rfl rfl (rv rfl rfl (?_)) | refine gn rfl rfl rfl rfl rfl ?_ | refine gu rfl rfl rfl rfl ?_ | refine gs rfl rfl rfl rfl rfl (fun hg => rv rfl rfl (?_)) (fun hg => ?_)) <;> (
                  (first | refine gy rfl rfl rfl (rv rfl rfl (?_)) | refine gn rfl rfl rfl rfl rfl ?_ | refine gu rfl rfl rfl rfl ?_ | refine gs rfl rfl rfl rfl rfl (fun hg => rv rfl rfl (?_)) (fun hg => ?_)) <;> (
                  refine rv rfl rfl (?_)
                  refine rv rfl rfl (?_)
                  (first | refine gy rfl rfl rfl (rv rfl rfl (?_)) | refine gn rfl rfl rfl rfl rfl ?_ | refine gu rfl rfl rfl rfl ?_ | refine gs rfl rfl rfl rfl rfl (fun hg => rv rfl rfl (?_)) (fun hg => ?_)) <;> (
                  (first | (refine gy rfl rfl rfl ?_; refine rh [0, 1] rfl rfl (end_c hk) rfl rfl rfl (by repeat (first | exact trivial | refine ⟨⟨⟨_, rfl, .inl rfl⟩, rfl, rfl⟩, ?_⟩ | refine ⟨⟨⟨_, rfl, .inr rfl⟩, rfl, rfl⟩, ?_⟩)) (by repeat (first | exact trivial | refine ⟨⟨⟨_, rfl, by first | exact .row | exact .ren rfl⟩, rfl⟩, ?_⟩)) ?_; rintro _ _ _ _ ⟨rfl, rfl, rfl, rfl⟩; refine as1 rfl ?_; refine ae rfl rfl rfl ?_) | refine gn rfl rfl rfl rfl rfl ?_ | refine gu rfl rfl rfl rfl ?_ | (refine gs rfl rfl rfl rfl rfl (fun hg => ?_) (fun hg => ?_) <;> first | (refine rh [0, 1] rfl rfl (end_c hk) rfl rfl rfl (by repeat (first | exact trivial | refine ⟨⟨⟨_, rfl, .inl rfl⟩, rfl, rfl⟩, ?_⟩ | refine ⟨⟨⟨_, rfl, .inr rfl⟩, rfl, rfl⟩, ?_⟩)) (by repeat (first | exact trivial | refine ⟨⟨⟨_, rfl, by first | exact .row | exact .ren rfl⟩, rfl⟩, ?_⟩)) ?_; rintro _ _ _ _ ⟨rfl, rfl, rfl, rfl⟩; refine as1 rfl ?_; refine ae rfl rfl rfl ?_) | skip)) <;> (
                  (first | refine gy rfl rfl rfl (rc1 rfl rfl rfl (code_k hk) (?_)) | refine gn rfl rfl rfl rfl rfl ?_ | refine gu rfl rfl rfl rfl ?_ | refine gs rfl rfl rfl rfl rfl (fun hg => rc1 rfl rfl rfl (code_k hk) (?_)) (fun hg => ?_)) <;> (
                  (first | refine gy rfl rfl rfl (rv rfl rfl (?_)) | refine gn rfl rfl rfl rfl rfl ?_ | refine gu rfl rfl rfl rfl ?_ | refine gs rfl rfl rfl rfl rfl (fun hg => rv rfl rfl (?_)) (fun hg => ?_)) <;> (
                  (first | refine gy rfl rfl rfl (rv rfl rfl (?_)) | refine gn rfl rfl rfl rfl rfl ?_ | refine gu rfl rfl rfl rfl ?_ | refine gs rfl rfl rfl rfl rfl (fun hg => rv rfl rfl (?_)) (fun hg => ?_)) <;> (
                  refine rv rfl rfl (?_)
                  refine rn ?_
                  refine then_normal ?_
                  refine cs_ rfl (fun hc => ?_) (fun hc => ?_)
                  · first
                    | (cases hc; done)
                    | (
                      refine awp_seq ?_
                      exfalso
                      first | (simp at hc; done) | (simp at hg; done) | (simp_all; done))
                  · first
                    | (cases hc; done)
                    | (
                      refine awp_skip ?_
                      refine inBlock_normal ?_
                      refine then_normal ?_
                      refine awp_region ?_
                      refine rv rfl rfl (?_)
                      refine rv rfl rfl (?_)
                      refine rv rfl rfl (?_)
                      refine rn ?_
                      refine then_normal ?_
                      refine ⟨(p.1 + 1, feedR (badI l p.1) p.2 l[p.1]), hn.2.2, by show l.length - (p.1 + 1) < _; omega, [0, 1], rfl, ?_⟩
                      refine ⟨rfl, rfl, ?_, ?_, ?_⟩
                      · refine ⟨⟨?_, rfl⟩, ?_⟩
                        · first | exact .inl rfl | exact .inr rfl | (refine .inl ?_; (first | refine ei ?_ | refine eb ?_ | refine esl ?_ | refine estr ?_ | skip); first | exact W_succ hlt hl | (rw [hn.2.1]; exact hfb.symm) | (rw [hn.2.1]; assumption) | (rw [hn.1]; simp [nR]; done) | (simp [catI, gotI, badI, parse_short, nR, bR]; done)) | (refine .inr ?_; (first | refine ei ?_ | refine eb ?_ | refine esl ?_ | refine estr ?_ | skip); first | exact W_succ hlt hl | (rw [hn.2.1]; exact hfb.symm) | (rw [hn.2.1]; assumption) | (rw [hn.1]; simp [nR]; done) | (simp [catI, gotI, badI, parse_short, nR, bR]; done))
                        refine ⟨⟨?_, rfl⟩, ?_⟩
                        · first | exact .inl rfl | exact .inr rfl | (refine .inl ?_; (first | refine ei ?_ | refine eb ?_ | refine esl ?_ | refine estr ?_ | skip); first | exact W_succ hlt hl | (rw [hn.2.1]; exact hfb.symm) | (rw [hn.2.1]; assumption) | (rw [hn.1]; simp [nR]; done) | (simp [catI, gotI, badI, parse_short, nR, bR]; done)) | (refine .inr ?_; (first | refine ei ?_ | refine eb ?_ | refine esl ?_ | refine estr ?_ | skip); first | exact W_succ hlt hl | (rw [hn.2.1]; exact hfb.symm) | (rw [hn.2.1]; assumption) | (rw [hn.1]; simp [nR]; done) | (simp [catI, gotI, badI, parse_short, nR, bR]; done))
                        refine ⟨⟨?_, rfl⟩, ?_⟩
                        · first | exact .inl rfl | exact .inr rfl | (refine .inl ?_; (first | refine ei ?_ | refine eb ?_ | refine esl ?_ | refine estr ?_ | skip); first | exact W_succ hlt hl | (rw [hn.2.1]; exact hfb.symm) | (rw [hn.2.1]; assumption) | (rw [hn.1]; simp [nR]; done) | (simp [catI, gotI, badI, parse_short, nR, bR]; done)) | (refine .inr ?_; (first | refine ei ?_ | refine eb ?_ | refine esl ?_ | refine estr ?_ | skip); first | exact W_succ hlt hl | (rw [hn.2.1]; exact hfb.symm) | (rw [hn.2.1]; assumption) | (rw [hn.1]; simp [nR]; done) | (simp [catI, gotI, badI, parse_short, nR, bR]; done))
                        refine ⟨⟨?_, rfl⟩, ?_⟩
                        · first | exact .inl rfl | exact .inr rfl | (refine .inl ?_; (first | refine ei ?_ | refine eb ?_ | refine esl ?_ | refine estr ?_ | skip); first | exact W_succ hlt hl | (rw [hn.2.1]; exact hfb.symm) | (rw [hn.2.1]; assumption) | (rw [hn.1]; simp [nR]; done) | (simp [catI, gotI, badI, parse_short, nR, bR]; done)) | (refine .inr ?_; (first | refine ei ?_ | refine eb ?_ | refine esl ?_ | refine estr ?_ | skip); first | exact W_succ hlt hl | (rw [hn.2.1]; exact hfb.symm) | (rw [hn.2.1]; assumption) | (rw [hn.1]; simp [nR]; done) | (simp [catI, gotI, badI, parse_short, nR, bR]; done))
                        refine ⟨⟨?_, rfl⟩, ?_⟩
                        · first | exact .inl rfl | exact .inr rfl | (refine .inl ?_; (first | refine ei ?_ | refine eb ?_ | refine esl ?_ | refine estr ?_ | skip); first | exact W_succ hlt hl | (rw [hn.2.1]; exact hfb.symm) | (rw [hn.2.1]; assumption) | (rw [hn.1]; simp [nR]; done) | (simp [catI, gotI, badI, parse_short, nR, bR]; done)) | (refine .inr ?_; (first | refine ei ?_ | refine eb ?_ | refine esl ?_ | refine estr ?_ | skip); first | exact W_succ hlt hl | (rw [hn.2.1]; exact hfb.symm) | (rw [hn.2.1]; assumption) | (rw [hn.1]; simp [nR]; done) | (simp [catI, gotI, badI, parse_short, nR, bR]; done))
                        refine ⟨⟨?_, rfl⟩, ?_⟩
                        · first | exact .inl rfl | exact .inr rfl | (refine .inl ?_; (first | refine ei ?_ | refine eb ?_ | refine esl ?_ | refine estr ?_ | skip); first | exact W_succ hlt hl | (rw [hn.2.1]; exact hfb.symm) | (rw [hn.2.1]; assumption) | (rw [hn.1]; simp [nR]; done) | (simp [catI, gotI, badI, parse_short, nR, bR]; done)) | (refine .inr ?_; (first | refine ei ?_ | refine eb ?_ | refine esl ?_ | refine estr ?_ | skip); first | exact W_succ hlt hl | (rw [hn.2.1]; exact hfb.symm) | (rw [hn.2.1]; assumption) | (rw [hn.1]; simp [nR]; done) | (simp [catI, gotI, badI, parse_short, nR, bR]; done))
                        exact trivial
                      · refine ⟨⟨?_, rfl, rfl⟩, ?_⟩
                        · first | exact ⟨_, rfl, .inl rfl⟩ | exact ⟨_, rfl, .inr rfl⟩ | (refine ⟨_, rfl, .inl ?_⟩; (first | refine ei ?_ | refine eb ?_ | refine esl ?_ | refine estr ?_ | skip); first | exact W_succ hlt hl | (rw [hn.2.1]; exact hfb.symm) | (rw [hn.2.1]; assumption) | (rw [hn.1]; simp [nR]; done) | (simp [catI, gotI, badI, parse_short, nR, bR]; done)) | (refine ⟨_, rfl, .inr ?_⟩; (first | refine ei ?_ | refine eb ?_ | refine esl ?_ | refine estr ?_ | skip); first | exact W_succ hlt hl | (rw [hn.2.1]; exact hfb.symm) | (rw [hn.2.1]; assumption) | (rw [hn.1]; simp [nR]; done) | (simp [catI, gotI, badI, parse_short, nR, bR]; done))
                        refine ⟨⟨?_, rfl, rfl⟩, ?_⟩
                        · first | exact ⟨_, rfl, .inl rfl⟩ | exact ⟨_, rfl, .inr rfl⟩ | (refine ⟨_, rfl, .inl ?_⟩; (first | refine ei ?_ | refine eb ?_ | refine esl ?_ | refine estr ?_ | skip); first | exact W_succ hlt hl | (rw [hn.2.1]; exact hfb.symm) | (rw [hn.2.1]; assumption) | (rw [hn.1]; simp [nR]; done) | (simp [catI, gotI, badI, parse_short, nR, bR]; done)) | (refine ⟨_, rfl, .inr ?_⟩; (first | refine ei ?_ | refine eb ?_ | refine esl ?_ | refine estr ?_ | skip); first | exact W_succ hlt hl | (rw [hn.2.1]; exact hfb.symm) | (rw [hn.2.1]; assumption) | (rw [hn.1]; simp [nR]; done) | (simp [catI, gotI, badI, parse_short, nR, bR]; done))
                        exact trivial
                      · refine ⟨orow rfl ?_ rfl, ?_⟩
                        · first | rfl | (first | exact W_succ hlt hl | (rw [hn.2.1]; exact hfb.symm) | (rw [hn.2.1]; assumption) | (rw [hn.1]; simp [nR]; done) | (simp [catI, gotI, badI, parse_short, nR, bR]; done))
                        exact trivial))))))))))))))))))))))))
      · first
        | (cases hc; done)
        | (
          refine awp_exit ?_
          repeat (first | refine then_exit ?_ | refine inBlock_other rfl ?_)
          refine inBlock_exit ?_
          refine then_normal ?_
          refine awp_seq ?_
          refine awp_region ?_
          refine rv rfl rfl (?_)
          refine rv rfl rfl (?_)
          refine rn ?_
          refine then_normal ?_
          refine awp_ret ?_
          repeat (first | refine then_ret ?_ | refine inBlock_ret ?_)
          refine rr rfl rfl ?_
          first | rfl | (exfalso; simp_all; done)))))))
end

end Go.Proofs.Ytfonfgnbjkpanaa
