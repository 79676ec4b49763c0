/- Contracts, printed by a program of this session's. -/
import Derived.Test.YtngeejjllgnpcaaS16d
namespace Go.Proofs.Ytngeejjllgnpcaa
open Go.Pv
set_option maxRecDepth 100000
set_option maxHeartbeats 4000000
set_option linter.unusedSimpArgs false
set_option linter.unusedVariables false
set_option linter.unusedSectionVars false

theorem datV_reg {x : AV} (h : DatV Try.prog 44 x) : ∃ a b c d l, x = .agg [.int .i64 a, .int .i64 b, .int .i64 c, .int .i64 d, .sl (rows l)] ∧ l.length ≤ maxLen := by
  obtain ⟨n, h⟩ := h
  have e1 : ti Try.prog 44 = some Try.i44 := rfl
  simp only [e1] at h
  obtain ⟨cs, rfl, h⟩ := (h : ∃ cs, x = .agg cs ∧ Dat Try.prog n 44 cs)
  cases n with
  | zero => exact h.elim
  | succ n =>
    simp only [Dat, e1] at h
    obtain ⟨ra, rb, rfl, _, hr, pa, pb, rfl, _, hp, hn⟩ := (h : DatF Try.prog (Dat Try.prog n) [(0, 38), (4, 22)] cs)
    obtain rfl := (hn : pb = [])
    obtain ⟨zs, hz, rfl, _⟩ := dat_ints (i := Try.i38) rfl rfl rfl hr
    obtain ⟨a, b, c, d, rfl⟩ := len4 hz
    obtain ⟨xs, rfl, h1, h2⟩ := dat_sl (i := Try.i22) rfl rfl hp
    have hv : DatV Try.prog 22 (.sl xs) := ⟨n, hp⟩
    obtain ⟨l, e, hl, _⟩ := datV_pts (i := Try.i22) (j := Try.i24) rfl rfl rfl rfl rfl rfl hv
    exact ⟨a, b, c, d, l, by rw [e]; rfl, hl⟩

end Go.Proofs.Ytngeejjllgnpcaa
