/- Contracts, printed by a program of this session's. -/
import Derived.Test.YtfonfgnbjkpanaaS02
namespace Go.Proofs.Ytfonfgnbjkpanaa
open Go.Pv
set_option maxRecDepth 100000
set_option maxHeartbeats 4000000
set_option linter.unusedSimpArgs false
set_option linter.unusedVariables false
set_option linter.unusedSectionVars false

abbrev Bs := List UInt8
def bR (l : Bs) : List (List AV) := l.map fun c => [.int .u8 (c.toNat : Int)]
theorem bR_plain (l : Bs) : Plain 1 (bR l) := Plain.map (f := fun c : UInt8 => [AV.int .u8 (c.toNat : Int)]) (fun _ => ⟨rfl, rfl, rfl⟩) l
theorem bR_length (l : Bs) : (bR l).length = l.length := by simp [bR]
theorem bR_append (a b : Bs) : bR a ++ bR b = bR (a ++ b) := by simp [bR]
theorem bR_drop (a : Bs) (k : Nat) : (bR a).drop k = bR (a.drop k) := by simp [bR, List.map_drop]
theorem bR_take (a : Bs) (k : Nat) : (bR a).take k = bR (a.take k) := by simp [bR, List.map_take]
def nR (l : List Bs) : List (List AV) := l.map fun b => [.sl (bR b)]
theorem nR_plain (l : List Bs) : Plain 1 (nR l) := Plain.map (f := fun b : Bs => [AV.sl (bR b)]) (fun _ => ⟨rfl, rfl, rfl⟩) l
theorem nR_append (a b : List Bs) : nR a ++ nR b = nR (a ++ b) := by simp [nR]
theorem nR_length (l : List Bs) : (nR l).length = l.length := by simp [nR]
/-- The frames at the front of bytes, what is left, and whether that is too large. -/
def parse (b : Bs) : List Bs × Bs × Bool :=
  match b with
  | h :: l :: r => if h.toNat * 256 + l.toNat > 4000 then ([], b, true) else if r.length < h.toNat * 256 + l.toNat then ([], b, false) else
      let p := parse (r.drop (h.toNat * 256 + l.toNat))
      (r.take (h.toNat * 256 + l.toNat) :: p.1, p.2)
  | _ => ([], b, false)
termination_by b.length
decreasing_by simp; omega
def num2 (b : Bs) : Nat := match b with | h :: l :: _ => h.toNat * 256 + l.toNat | _ => 0
theorem parse_short {b : Bs} (h : b.length < 2) : parse b = ([], b, false) := by
  match b, h with
  | [], _ => simp [parse]
  | [x], _ => simp [parse]
theorem two_of {b : Bs} (h : 2 ≤ b.length) : ∃ x y r, b = x :: y :: r := by
  match b, h with
  | x :: y :: r, _ => exact ⟨x, y, r, rfl⟩
theorem parse_bad {b : Bs} (h : 2 ≤ b.length) (hn : num2 b > 4000) : parse b = ([], b, true) := by
  obtain ⟨x, y, r, rfl⟩ := two_of h
  rw [parse]; simp only [num2] at hn; rw [if_pos hn]
theorem parse_stop {b : Bs} (h : 2 ≤ b.length) (hn : ¬ num2 b > 4000) (hl : b.length < 2 + num2 b) : parse b = ([], b, false) := by
  obtain ⟨x, y, r, rfl⟩ := two_of h
  simp only [num2, List.length_cons] at hn hl
  rw [parse]; rw [if_neg hn, if_pos (by omega)]
theorem parse_step {b : Bs} (h : 2 ≤ b.length) (hn : ¬ num2 b > 4000) (hl : ¬ b.length < 2 + num2 b) : parse b = ((b.take (2 + num2 b)).drop 2 :: (parse (b.drop (2 + num2 b))).1, (parse (b.drop (2 + num2 b))).2) := by
  obtain ⟨x, y, r, rfl⟩ := two_of h
  simp only [num2, List.length_cons] at hn hl ⊢
  rw [parse]; rw [if_neg hn, if_neg (by omega)]
  have e : ∀ k, List.drop (2 + k) (x :: y :: r) = r.drop k := fun k => by rw [Nat.add_comm]; rfl
  have e' : ∀ k, (List.take (2 + k) (x :: y :: r)).drop 2 = r.take k := fun k => by rw [Nat.add_comm]; rfl
  rw [e, e']
theorem num2_lt (b : Bs) : num2 b < 65536 := by
  unfold num2; split
  · rename_i h l _; have := h.toNat_lt; have := l.toNat_lt; omega
  · omega
theorem parse_app : ∀ (n : Nat) (x y : Bs), x.length ≤ n → ((parse x).2.2 = true → parse (x ++ y) = ((parse x).1, (parse x).2.1 ++ y, true)) ∧
    ((parse x).2.2 = false → parse (x ++ y) = ((parse x).1 ++ (parse ((parse x).2.1 ++ y)).1, (parse ((parse x).2.1 ++ y)).2)) := by
  intro n
  induction n with
  | zero =>
    intro x y h
    rw [parse_short (b := x) (by omega)]
    exact ⟨fun h => by simp at h, fun _ => by simp⟩
  | succ n ih =>
    intro x y h
    by_cases h2 : 2 ≤ x.length
    · have hx : num2 (x ++ y) = num2 x := by obtain ⟨a, b, r, rfl⟩ := two_of h2; rfl
      have hl2 : 2 ≤ (x ++ y).length := by simp; omega
      by_cases hn : num2 x > 4000
      · rw [parse_bad h2 hn]
        refine ⟨fun _ => ?_, fun h => by simp at h⟩
        rw [parse_bad hl2 (by rw [hx]; exact hn)]
      · by_cases hl : x.length < 2 + num2 x
        · rw [parse_stop h2 hn hl]
          exact ⟨fun h => by simp at h, fun _ => by simp⟩
        · rw [parse_step h2 hn hl]
          have hd : (x ++ y).drop (2 + num2 x) = x.drop (2 + num2 x) ++ y := List.drop_append_of_le_length (by omega)
          have ht : (x ++ y).take (2 + num2 x) = x.take (2 + num2 x) := List.take_append_of_le_length (by omega)
          have := ih (x.drop (2 + num2 x)) y (by simp; omega)
          rw [parse_step hl2 (by rw [hx]; exact hn) (by rw [hx]; simp; omega), hx, hd, ht]
          refine ⟨fun h => ?_, fun h => ?_⟩
          · rw [this.1 h]
          · rw [this.2 h]; simp
    · rw [parse_short (b := x) (by omega)]
      exact ⟨fun h => by simp at h, fun _ => by simp⟩
theorem parse_len : ∀ (n : Nat) (x : Bs), x.length ≤ n → 2 * (parse x).1.length ≤ x.length ∧ (parse x).2.1.length ≤ x.length := by
  intro n
  induction n with
  | zero => intro x h; rw [parse_short (b := x) (by omega)]; simp
  | succ n ih =>
    intro x h
    by_cases h2 : 2 ≤ x.length
    · by_cases hn : num2 x > 4000
      · rw [parse_bad h2 hn]; simp
      · by_cases hl : x.length < 2 + num2 x
        · rw [parse_stop h2 hn hl]; simp
        · rw [parse_step h2 hn hl]
          have := ih (x.drop (2 + num2 x)) (by simp; omega)
          simp only [List.length_drop, List.length_cons] at this ⊢
          omega
    · rw [parse_short (b := x) (by omega)]; simp
def feedO (bad : Bool) (x y : Bs) : List Bs := if bad then [] else (parse (x ++ y)).1
def feedR (bad : Bool) (x y : Bs) : Bs := if bad then x else (parse (x ++ y)).2.1
def feedB (bad : Bool) (x y : Bs) : Bool := if bad then true else (parse (x ++ y)).2.2
def errB (b : Bool) (n : Int) : AV := match b with | true => .iface 47 (.int .i64 n) | false => .nilI
def feedT (bad : Bool) (x y : Bs) (b : Bool) : AV := .tup [.sl (nR (feedO bad x y)), errB b 5]

end Go.Proofs.Ytfonfgnbjkpanaa
