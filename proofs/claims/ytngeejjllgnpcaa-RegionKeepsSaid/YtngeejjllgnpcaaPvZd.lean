/- What a law's arguments are, by their types: bytes, rows of bytes, and so on. -/
import Derived.Test.YtngeejjllgnpcaaPvZc
namespace Go.Pv
open Go.ChangeShapes Go.WideShapes
set_option linter.unusedSimpArgs false
set_option linter.unusedSectionVars false
set_option linter.unusedVariables false

section
variable {P : Program} [Tab P]

theorem dat_list {α : Type} {f : α → List AV} {Q : α → Prop} {e : TypeId} (h : ∀ n r, Dat P n e r → ∃ a, r = f a ∧ Q a) : ∀ xs : List (List AV), (∀ r ∈ xs, ∃ n, Dat P n e r) → ∃ l : List α, xs = l.map f ∧ ∀ a ∈ l, Q a
  | [], _ => ⟨[], rfl, fun _ h => by cases h⟩
  | x :: xs, hx => by
    obtain ⟨n, hn⟩ := hx x (by simp)
    obtain ⟨a, rfl, qa⟩ := h n x hn
    obtain ⟨l, rfl, ql⟩ := dat_list h xs fun r hr => hx r (by simp [hr])
    exact ⟨a :: l, rfl, fun b hb => by
      rcases List.mem_cons.1 hb with rfl | hb
      · exact qa
      · exact ql b hb⟩

theorem dat_sl {n : Nat} {t e : TypeId} {i : TI} {cs : List AV} (hi : ti P t = some i) (hk : i.k = .slice e) (h : Dat P n t cs) : ∃ xs, cs = [.sl xs] ∧ xs.length ≤ maxLen ∧ ∀ r ∈ xs, ∃ n, Dat P n e r := by
  cases n with
  | zero => exact h.elim
  | succ n =>
    simp only [Dat, hi, hk] at h
    obtain ⟨xs, h1, h2, h3⟩ := h
    exact ⟨xs, h1, h2, fun r hr => ⟨n, (h3 r hr).2⟩⟩

theorem dat_byte {n : Nat} {t : TypeId} {i : TI} {cs : List AV} (hi : ti P t = some i) (hk : i.k = .int .u8) (h : Dat P n t cs) : ∃ c : UInt8, cs = [.int .u8 (c.toNat : Int)] ∧ True := by
  obtain ⟨z, rfl, hz⟩ := dat_int hi hk h
  refine ⟨UInt8.ofNat z.toNat, ?_, trivial⟩
  have hw : 0 ≤ z ∧ z ≤ 255 := by
    have h1 : IntKind.min .u8 = 0 := by decide
    have h2 : IntKind.max .u8 = 255 := by decide
    simp only [Lit.wf, h1, h2, Bool.and_eq_true, decide_eq_true_eq] at hz
    omega
  rw [UInt8.toNat_ofNat']
  have : ((z.toNat % 2 ^ 8 : Nat) : Int) = z := by omega
  rw [this]

theorem dat_bool {n : Nat} {t : TypeId} {i : TI} {cs : List AV} (hi : ti P t = some i) (hk : i.k = .bool) (h : Dat P n t cs) : ∃ b, cs = [.bool b] := by
  cases n with
  | zero => exact h.elim
  | succ n => simpa only [Dat, hi, hk] using h

theorem dat_str {n : Nat} {t : TypeId} {i : TI} {cs : List AV} (hi : ti P t = some i) (hk : i.k = .str) (h : Dat P n t cs) : ∃ s, cs = [.str s] ∧ s.size ≤ maxLen := by
  cases n with
  | zero => exact h.elim
  | succ n => simpa only [Dat, hi, hk] using h

abbrev byteR (l : List UInt8) : List (List AV) := l.map fun c => [.int .u8 (c.toNat : Int)]

theorem dat_bytes {n : Nat} {t e : TypeId} {i j : TI} {cs : List AV} (hi : ti P t = some i) (hk : i.k = .slice e) (he : ti P e = some j) (hj : j.k = .int .u8) (h : Dat P n t cs) : ∃ l : List UInt8, cs = [.sl (byteR l)] ∧ l.length ≤ maxLen := by
  obtain ⟨xs, rfl, h1, h2⟩ := dat_sl hi hk h
  obtain ⟨l, rfl, _⟩ := dat_list (f := fun c : UInt8 => [AV.int .u8 (c.toNat : Int)]) (fun n r hr => dat_byte he hj hr) xs h2
  exact ⟨l, rfl, by simpa using h1⟩

/-- A row of rows of bytes. -/
theorem datV_bytess {t e d : TypeId} {i j k : TI} {x : AV} (hi : ti P t = some i) (hk : i.k = .slice e) (he : ti P e = some j) (hj : j.k = .slice d) (hd : ti P d = some k) (hkd : k.k = .int .u8) (h : DatV P t x) :
    ∃ l : List (List UInt8), x = .sl (l.map fun b => [.sl (byteR b)]) ∧ l.length ≤ maxLen ∧ ∀ b ∈ l, b.length ≤ maxLen := by
  obtain ⟨xs, rfl, h1, h2⟩ := datV_sl hi hk h
  obtain ⟨l, rfl, h3⟩ := dat_list (f := fun b : List UInt8 => [AV.sl (byteR b)]) (fun n r hr => dat_bytes he hj hd hkd hr) xs h2
  exact ⟨l, rfl, by simpa using h1, h3⟩

/-- A row of whole numbers. -/
theorem datV_intl {t e : TypeId} {i j : TI} {k : IntKind} {x : AV} (hi : ti P t = some i) (hk : i.k = .slice e) (he : ti P e = some j) (hj : j.k = .int k) (h : DatV P t x) :
    ∃ l : List Int, x = .sl (l.map fun z => [.int k z]) ∧ l.length ≤ maxLen ∧ ∀ z ∈ l, (Lit.int k z).wf = true := by
  obtain ⟨xs, rfl, h1, h2⟩ := datV_sl hi hk h
  obtain ⟨l, rfl, h3⟩ := dat_list (f := fun z : Int => [AV.int k z]) (fun n r hr => dat_int he hj hr) xs h2
  exact ⟨l, rfl, by simpa using h1, h3⟩

end
end Go.Pv
