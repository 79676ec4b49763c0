/- Layer 10, plainly: WirePuts. -/
import Derived.Test.YtaekecbadkcggaaE10w
namespace Go.Proofs.Ytaekecbadkcggaa
open Go.Pv
set_option linter.unusedSimpArgs false
set_option linter.unusedVariables false
set_option linter.unusedSectionVars false
set_option maxRecDepth 100000

theorem get_up (n : Nat) : dwire_Get (n + 30) [2, 5, 1] = some (⟨2, 5, 1, 0, ⟨0, 0, 0, 0⟩, [], ⟨0, 0, ⟨0, 0⟩, []⟩⟩, none) := by kernel_rfl
theorem i64_0 : i64 0 := by unfold i64; omega
theorem up10 : Ev fun n => dlaw10_up n = some true := by
  refine Ev.ge 2000 fun n hn => ?_
  unfold dlaw10_up
  have e1 : dwire_Put n (tMsg.mk 2 5 1 0 (tRect.mk 0 0 0 0) [] (tEvent.mk 0 0 (tPoint.mk 0 0) [])) = some ([2, 5, 1], none) := by
    rw [dPut ⟨i64_0, i64_0, i64_0, i64_0, i64_0, i64_0, by decide, (by intro a h; cases h)⟩ (by decide) (show 0 < n by omega) (by omega) (by decide)]
    unfold mws
    rw [if_neg (by decide), if_pos (by decide), vi_lt (by decide), vi_lt (by decide)]
    rfl
  have e2 : dwire_Put n (tMsg.mk 0 0 0 0 (tRect.mk 0 0 0 0) [] (tEvent.mk 0 0 (tPoint.mk 0 0) [])) = some ([], some 1) := dPutNo (by decide) (show 0 < n by omega) (by decide)
  obtain ⟨k, rfl⟩ : ∃ k, n = k + 30 := ⟨n - 30, by omega⟩
  rw [e1, e2, get_up]
  rfl
theorem drSmall {n : Nat} (m : tMsg) (hl : m.Event.Attrs.length ≤ maxLen) (hn : m.Event.Attrs.length < n) : ∃ b, dref10_Small n m = some b := by
  unfold dref10_Small
  refine loopD_ex (fun s => ∃ i : Nat, s = (i : Int) ∧ i ≤ m.Event.Attrs.length) (fun s => m.Event.Attrs.length - s.toNat) (fun _ => True) ⟨0, rfl, Nat.zero_le _⟩ (by simp; omega) ?_ fun e _ => ?_
  · rintro _ ⟨i, rfl, hle⟩
    by_cases h : i < m.Event.Attrs.length
    · have hd : decide ((i : Int) < (m.Event.Attrs.length : Int)) = true := by simpa using h
      simp only [hd, cond_true, gi_lt h, Option.bind_some, W_suc (show i + 1 < 9223372036854775808 by have := lt_max hl; omega)]
      generalize decide ((m.Event.Attrs[i].Name.length : Int) > 300) = b1
      generalize decide ((m.Event.Attrs[i].S.length : Int) > 300) = b2
      have hg : ∀ x : Int ⊕ (Unit ⊕ Bool), x = Sum.inr (Sum.inr false) ∨ x = Sum.inl (((i + 1 : Nat) : Int)) → (∀ s', x = .inl s' → (∃ i : Nat, s' = (i : Int) ∧ i ≤ m.Event.Attrs.length) ∧ m.Event.Attrs.length - s'.toNat < m.Event.Attrs.length - ((i : Int)).toNat) ∧ ∀ e, x = .inr e → True := by
        rintro x (rfl | rfl)
        · exact ⟨(fun _ e => nomatch e), fun _ _ => trivial⟩
        · exact ⟨fun s' e => by cases e; exact ⟨⟨i + 1, rfl, h⟩, by simp only [Int.toNat_natCast]; omega⟩, fun _ _ => trivial⟩
      cases b1 <;> cases b2 <;> simp only [cond_true, cond_false, Option.bind_some] <;> exact ⟨_, rfl, hg _ (by simp)⟩
    · have hd : decide ((i : Int) < (m.Event.Attrs.length : Int)) = false := by simp; omega
      simp only [hd, cond_false]
      exact ⟨_, rfl, (fun s' e => nomatch e), fun _ _ => trivial⟩
  · cases e with
    | inr b => exact ⟨b, rfl⟩
    | inl _ => cases h : decide ((m.Filter.length : Int) ≤ 600) <;> simp only [kS, h, cond_true, cond_false, Option.bind_some] <;> exact ⟨_, rfl⟩
theorem WirePuts_e (m k : tMsg) (hi : MsgI m) (hl : m.Event.Attrs.length ≤ maxLen) (hk : k.Event.Attrs.length ≤ maxLen) : Ev fun n => dlaw10_WirePuts n m k = some true := by
  refine (up10.big (m.Event.Attrs.length + k.Event.Attrs.length + 2000)).mono fun n hh => ?_
  obtain ⟨hn, hup⟩ := hh
  obtain ⟨b1, hb1⟩ := drSmall (n := n) m hl (by omega)
  obtain ⟨b2, hb2⟩ := drSmall (n := n) k hk (by omega)
  unfold dlaw10_WirePuts
  rw [hup, hb1, hb2]
  simp only [Option.bind_some]
  have hx : (bif (!b1) then some true else some (!b2) : Option Bool) = some (!b1 || !b2) := by cases b1 <;> rfl
  rw [hx, Option.bind_some]
  cases (!b1 || !b2) with
  | true => rfl
  | false =>
    simp only [cond_false, drMay m hl (show m.Event.Attrs.length < n by omega), dMay m hl (show m.Event.Attrs.length < n by omega), dSame m k hl (show m.Event.Attrs.length < n by omega), drSame m k hl (show m.Event.Attrs.length < n by omega), dSame m m hl (show m.Event.Attrs.length < n by omega), eqM_refl, Option.bind_some, beq_self_eq_true, Bool.not_true]
    cases hM : msgB m with
    | false => rw [dPutNo hl (by omega) hM]; rfl
    | true => rw [dPut hi hl (by omega) (by omega) hM]; simp only [Option.bind_some, drPut hi (show 1000 < n by omega) hM, Option.isNone_none, cond_true, cond_false, Bool.not_true, beq_self_eq_true]
theorem okI64' {c : Int} (h : okI .i64 c) : i64 c := by
  unfold okI at h
  simp only [Lit.wf, Bool.and_eq_true, decide_eq_true_eq] at h
  have h1 : IntKind.min .i64 = -9223372036854775808 := by decide
  have h2 : IntKind.max .i64 = 9223372036854775807 := by decide
  unfold i64; omega
theorem msgI_of {m : tMsg} (h : ok_tMsg m) : MsgI m ∧ m.Event.Attrs.length ≤ maxLen := by
  obtain ⟨_, _, _, _, ⟨a, b, c, d⟩, _, _, e, ⟨f, g⟩, hl, ha⟩ := h
  have h32 : 0 ≤ m.Event.Seq ∧ m.Event.Seq < 4294967296 := by
    unfold okI at e
    simp only [Lit.wf, Bool.and_eq_true, decide_eq_true_eq] at e
    have h1 : IntKind.min .u32 = 0 := by decide
    have h2 : IntKind.max .u32 = 4294967295 := by decide
    omega
  exact ⟨⟨okI64' a, okI64' b, okI64' c, okI64' d, okI64' f, okI64' g, h32, fun x hx => okI64' (ha x hx).2.2.1⟩, hl⟩
theorem WirePuts_c {m k : tMsg} (h1 : ok_tMsg m) (h2 : ok_tMsg k) : PCall Try.prog 8 [.agg (c_tMsg m), .agg (c_tMsg k)] (· = .bool true) := by
  obtain ⟨n, h⟩ := (WirePuts_e m k (msgI_of h1).1 (msgI_of h1).2 (msgI_of h2).2).get
  exact dlaw10_WirePuts_l h
end Go.Proofs.Ytaekecbadkcggaa
