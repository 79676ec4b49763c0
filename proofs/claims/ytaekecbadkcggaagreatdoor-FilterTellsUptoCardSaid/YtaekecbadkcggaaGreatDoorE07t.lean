/- Layer 7: FilterTells. -/
import Derived.Test.YtaekecbadkcggaaGreatDoorE07r
import Derived.Test.YtaekecbadkcggaaGreatDoorE07u
namespace Go.Proofs.YtaekecbadkcggaaGreatDoor
open Go.Pv
set_option linter.unusedSimpArgs false
set_option maxRecDepth 100000

mutual
theorem nodes_bk : ∀ f : tFilter, nodesF f ≤ bkL (c_tFilter f)
  | .mk a b c d l => by have := nodesL_bk l; simp only [nodesF, c_tFilter, bkL, AV.bk]; omega
theorem nodesL_bk : ∀ l : List tFilter, nodesL l ≤ bkLL (cs_tFilter l)
  | [] => Nat.zero_le _
  | x :: l => by have := nodes_bk x; have := nodesL_bk l; simp only [nodesL, cs_tFilter, bkLL]; omega
end
theorem mayF_parts {f : tFilter} (h : mayF f = true) : deepF f ≤ 10 ∧ nodesF f ≤ 60 ∧ fineF f = true := by
  unfold mayF at h; simpa only [Bool.and_eq_true, decide_eq_true_eq] using h
theorem dText {f : tFilter} (hf : ok_tFilter f) (hN : nodesF f ≤ 4611686018427387904) : Ev fun n => dfilter_Text n f = some (if mayF f then (showF f, none) else ([], some 1)) := by
  cases hm : mayF f with
  | false =>
    refine (dMay hf hN).mono fun n e => ?_
    cases f; rw [dfilter_Text]; simp only [e, hm, Option.bind_some]; rfl
  | true =>
    obtain ⟨_, h2, h3⟩ := mayF_parts hm
    refine ((dMay hf hN).and (dshow f hf h3 (by omega))).mono fun n e => ?_
    obtain ⟨e1, e2⟩ := e
    cases f; rw [dfilter_Text]; simp only [e1, e2, hm, Option.bind_some]; rfl
theorem FilterTells_e (f g : tFilter) (hf : ok_tFilter f) (hg : ok_tFilter g) (hN : nodesF f ≤ 1048576) : Ev fun n => dlaw07_FilterTells n f g = some true := by
  have hN' : nodesF f ≤ 4611686018427387904 := by omega
  have hs : mayF f = true → Ev fun n => dref06_Show n f = some (showF f) := fun h => drShow f hf (mayF_parts h).2.2 (by have := (mayF_parts h).2.1; omega)
  have hs' : Ev fun n => mayF f = true → dref06_Show n f = some (showF f) := by
    cases h : mayF f with
    | false => exact Ev.of fun n h => by cases h
    | true => exact (hs h).mono fun n e _ => e
  refine ((((((((((up07.and (drFew f hf)).and (drFew g hg)).and (drMay hf hN')).and (dText hf hN')).and (dMay hf hN')).and (dSame f g hf)).and (drSame f g hf)).and (dSame f f hf)).and hs')).mono fun n h => ?_
  obtain ⟨⟨⟨⟨⟨⟨⟨⟨⟨h1, ⟨b, h2⟩⟩, ⟨c, h3⟩⟩, h4⟩, h5⟩, h6⟩, h7⟩, h8⟩, h9⟩, h10⟩ := h
  cases hef : f with
  | mk k1 k2 k3 k4 k5 =>
  cases heg : g with
  | mk j1 j2 j3 j4 j5 =>
  rw [dlaw07_FilterTells]
  rw [hef] at h2 h4 h5 h6 h7 h8 h9 h10; rw [heg] at h3 h7 h8
  simp only [h1, h2, h3, Option.bind_some]
  have hx : (bif (!b) then some true else some (!c) : Option Bool) = some (!b || !c) := by cases b <;> rfl
  rw [hx, Option.bind_some]
  cases !b || !c with
  | true => rfl
  | false =>
    simp only [cond_false, h4, h5, h6, h7, h8, h9, Option.bind_some, eqF_refl, Bool.not_true, beq_self_eq_true]
    cases hm : mayF (.mk k1 k2 k3 k4 k5) with
    | false => rfl
    | true =>
      have e10 := h10 hm
      simp only [e10, Option.bind_some, if_true, Bool.not_true, cond_true, cond_false, Option.isNone_none, beq_self_eq_true]
theorem FilterTells_c {f g : tFilter} (hf : ok_tFilter f) (hg : ok_tFilter g) (hb : bkL [.agg (c_tFilter f), .agg (c_tFilter g)] ≤ 1048576) : PCall Tryz.prog 4 [.agg (c_tFilter f), .agg (c_tFilter g)] (· = .bool true) := by
  have h1 := nodes_bk f
  simp only [bkL, AV.bk] at hb
  obtain ⟨n, h⟩ := (FilterTells_e f g hf hg (by omega)).get
  exact dlaw07_FilterTells_l h
end Go.Proofs.YtaekecbadkcggaaGreatDoor
