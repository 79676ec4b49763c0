/- Small helps for loops: when two contents are one. -/
import Derived.Test.YtngeejjllgnpcaaPvM
namespace Go.Pv
theorem ei {k : IntKind} {a b : Int} (h : a = b) : AV.int k a = AV.int k b := by rw [h]
theorem eh {k : IntKind} {a b : Int} (h : a = b) : some (AV.int k a) = some (AV.int k b) := by rw [h]
theorem eb {a b : Bool} (h : a = b) : AV.bool a = AV.bool b := by rw [h]
theorem ehb {a b : Bool} (h : a = b) : some (AV.bool a) = some (AV.bool b) := by rw [h]
theorem W_succ {i n : Nat} (h : i < n) (hn : n ≤ maxLen) : IntKind.wrap .i64 ((i : Int) + 1) = ((i + 1 : Nat) : Int) := by
  have := W_id (n := (i : Int) + 1) (by unfold maxLen at hn; omega)
  rw [W] at this; rw [this]; rfl
section
variable {P : Program} [Tab P]

theorem datV_sl {t e : TypeId} {i : TI} {x : AV} (hi : ti P t = some i) (hk : i.k = .slice e) (h : DatV P t x) : ∃ xs, x = .sl xs ∧ xs.length ≤ maxLen ∧ ∀ r ∈ xs, ∃ n, Dat P n e r := by
  obtain ⟨n, h⟩ := h
  simp only [hi, hk] at h
  cases n with
  | zero => exact h.elim
  | succ n =>
    simp only [Dat, hi, hk] at h
    obtain ⟨xs, h1, h2, h3⟩ := h
    exact ⟨xs, by simpa using h1, h2, fun r hr => ⟨n, (h3 r hr).2⟩⟩

theorem datV_pts {t e : TypeId} {i j : TI} {q : Bool} {f1 f2 : Nat × TypeId} {x : AV} (hi : ti P t = some i) (hk : i.k = .slice e) (he : ti P e = some j) (hj : j.k = .struct q [f1, f2]) (h1 : isI P f1.2 = true) (h2 : isI P f2.2 = true)
    (h : DatV P t x) : ∃ ps : List (Int × Int), x = .sl (ps.map fun p => [.int .i64 p.1, .int .i64 p.2]) ∧ ps.length ≤ maxLen ∧ ∀ p ∈ ps, (Lit.int .i64 p.1).wf = true ∧ (Lit.int .i64 p.2).wf = true := by
  obtain ⟨xs, rfl, hl, hr⟩ := datV_sl hi hk h
  have key : ∀ xs : List (List AV), (∀ r ∈ xs, ∃ n, Dat P n e r) → ∃ ps : List (Int × Int), xs = ps.map (fun p => [.int .i64 p.1, .int .i64 p.2]) ∧ ∀ p ∈ ps, (Lit.int .i64 p.1).wf = true ∧ (Lit.int .i64 p.2).wf = true := by
    intro xs
    induction xs with
    | nil => exact fun _ => ⟨[], rfl, by simp⟩
    | cons r xs ih =>
      intro hr
      obtain ⟨ps, rfl, hp⟩ := ih fun r h => hr r (by simp [h])
      obtain ⟨n, hd⟩ := hr r (by simp)
      obtain ⟨zs, hz, rfl, hw⟩ := dat_ints he hj (by simp [h1, h2]) hd
      obtain ⟨a, b, rfl⟩ := len2 hz
      exact ⟨(a, b) :: ps, rfl, fun p hp' => by
        rcases List.mem_cons.1 hp' with rfl | hp'
        · exact ⟨hw a (by simp), hw b (by simp)⟩
        · exact hp p hp'⟩
  obtain ⟨ps, rfl, hp⟩ := key xs hr
  exact ⟨ps, rfl, by simpa using hl, hp⟩
end
end Go.Pv
