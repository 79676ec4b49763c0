/- Small rules: operations whose answers are shown by hand, in regions that draw too. -/
import Derived.Test.YtngeejjllgnpcaaPvZd
namespace Go.Pv
set_option linter.unusedSectionVars false
set_option linter.unusedVariables false
section
variable {P : Program} [Tab P] {N n0 : Nat} {Q : Post} {ops : Array Oper} {rest : List Oper} {σ : List (Nat × AV)} {H A : List (Nat × Nat × AV)} {O : List (Nat × Kind)} {n i : Nat}
  {d : Nat} {op : Op} {ty : TypeId} {pos : String} {af : Array Edge} {gd : Option (Nat × Bool)} {s : St}
theorem ov_eq {k : IntKind} {a b : Int} (h : opv P s op = some (.int k a)) (e : a = b) : opv P s op = some (.int k b) := e ▸ h
theorem ov_is {a b : AV} (h : opv P s op = some a) (e : a = b) : opv P s op = some b := e ▸ h
theorem ov_rem {t t2 : TypeId} {x y : Operand} {k : IntKind} {a b c : Int} (hx : evs s x = .int k a) (hy : evs s y = .int k b) (h0 : b ≠ 0) (e : a.tmod b = c) : opv P s (.binOp .rem t x y t2) = some (.int k c) := by
  simp only [opv, hx, hy, binv, isSh, intv, if_neg h0, e]; simp
theorem ov_quo {t t2 : TypeId} {x y : Operand} {k : IntKind} {a b c : Int} (hx : evs s x = .int k a) (hy : evs s y = .int k b) (h0 : b ≠ 0) (e : k.wrap (a.tdiv b) = c) : opv P s (.binOp .quo t x y t2) = some (.int k c) := by
  simp only [opv, hx, hy, binv, isSh, intv, if_neg h0, e]; simp
theorem dv' {K : St → Prop} {v : AV} (hd : Nat.blt d N = true) (hg : wantedS ops σ gd = some true) (hv : ∀ m, opv P ⟨restr ⟨some d, op, ty, pos, af, gd⟩ σ, H, O, m⟩ op = some v)
    (k : DP P N n0 ops H O (i + 1) rest ((d, v) :: σ) n A K) : DP P N n0 ops H O i (⟨some d, op, ty, pos, af, gd⟩ :: rest) σ n A K := by
  obtain ⟨σ', n', A', al, hp, hk⟩ := k
  exact ⟨σ', n', A', al, .go rfl hd hg (fun m => step_val (hv m)) hp, hk⟩
end
end Go.Pv
