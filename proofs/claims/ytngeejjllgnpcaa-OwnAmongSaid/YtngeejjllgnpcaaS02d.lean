/- Contracts, printed by a program of this session's. -/
import Derived.Test.YtngeejjllgnpcaaS02c
namespace Go.Proofs.Ytngeejjllgnpcaa
open Go.Pv
set_option maxRecDepth 100000
set_option maxHeartbeats 4000000
set_option linter.unusedSimpArgs false
set_option linter.unusedVariables false
set_option linter.unusedSectionVars false

section
variable {a b c d a' b' c' d' x y : Int}
theorem tells (h : mayR a b c d = true) (h' : mayR a' b' c' d' = true) : mn a' a = mn a a' ∧ mn b' b = mn b b' ∧ mn c' c = mn c c' ∧ mn d' d = mn d d' ∧ mor a a' = mx a a' ∧ mor b b' = mx b b' ∧ mor c c' = mx c c' ∧ mor d d' = mx d d' ∧ rmeetB a b c d a' b' c' d' = meetB a b c d a' b' c' d' ∧ (inR a b c d a' b' && inR a b c d c' d') = holdsR a b c d a' b' c' d' ∧ W (W (W (c - a) + d) - b) = marginR a b c d := by
  rw [mayR_iff] at h h'
  obtain ⟨⟨h1, h2, h3, h4⟩, h5, h6⟩ := h
  obtain ⟨⟨k1, k2, k3, k4⟩, k5, k6⟩ := h'
  refine ⟨mn_comm .., mn_comm .., mn_comm .., mn_comm .., mor_eq h1 k1, mor_eq h2 k2, mor_eq h3 k3, mor_eq h4 k4, ?_, ?_, rfl⟩
  · simp only [rmeetB, meetB, mor_eq h1 k1, mor_eq h2 k2, mn_comm c', mn_comm d']
  · rw [Bool.eq_iff_iff]
    simp only [inR, holdsR, Bool.and_eq_true, decide_eq_true_eq]; omega
theorem rmeetT_eq (h : mayR a b c d = true) (h' : mayR a' b' c' d' = true) : rmeetT a b c d a' b' c' d' = meetT a b c d a' b' c' d' := by
  obtain ⟨e1, e2, e3, e4, e5, e6, e7, e8, e9, _⟩ := tells h h'
  simp only [rmeetT, meetT, e3, e4, e5, e6, e9]
end

end Go.Proofs.Ytngeejjllgnpcaa
