/- Calls that are handed variables, or rows, of the caller's own: the callee numbers them anew; what it is not handed stands. -/
import Derived.Test.YtngeejjllgnpcaaPvQ
namespace Go.Pv
set_option linter.unusedSimpArgs false
set_option linter.unusedSectionVars false
set_option linter.unusedVariables false

mutual
def AV.ren (ρ : Nat → Nat) : AV → AV
  | .ptr id off => .ptr (ρ id) off
  | .own id => .own (ρ id)
  | .eptr id r c => .eptr (ρ id) r c
  | .iface t x => .iface t (AV.ren ρ x)
  | .fn f cs => .fn f (renL ρ cs)
  | .agg cs => .agg (renL ρ cs)
  | .tup cs => .tup (renL ρ cs)
  | x => x
def renL (ρ : Nat → Nat) : List AV → List AV
  | [] => []
  | x :: r => AV.ren ρ x :: renL ρ r
end

structure Ren (ρ : Nat → Nat) (m : Nat) (gc g : G) : Prop where
  blk : ∀ j, j < m → g.blk (ρ j) = gc.blk j
  own : ∀ j, j < m → g.own (ρ j) = gc.own j
  wd : ∀ j, j < m → g.wd (ρ j) = gc.wd j
  top : g.top = gc.top

mutual
theorem Rep.ren {w : World} {ρ : Nat → Nat} {m : Nat} {gc g : G} (h : Ren ρ m gc g) : ∀ (x : AV) (v : Value), x.lim m = true → (Rep w g (x.ren ρ) v ↔ Rep w gc x v)
  | .any, _, _ => Iff.rfl
  | .bool _, _, _ => Iff.rfl
  | .int _ _, _, _ => Iff.rfl
  | .str _, _, _ => Iff.rfl
  | .nilp, _, _ => Iff.rfl
  | .nilS, _, _ => Iff.rfl
  | .nilM, _, _ => Iff.rfl
  | .ptr id _, _, hl => by
    have hi : id < m := by simpa [AV.lim] using hl
    simp only [AV.ren, Rep, h.blk id hi]
  | .rd _, _, _ => by simp only [AV.ren, Rep, h.top]
  | .sl _, _, _ => by simp only [AV.ren, Rep, h.top]
  | .own id, _, hl => by
    have hi : id < m := by simpa [AV.lim] using hl
    simp only [AV.ren, Rep, h.own id hi]
  | .eptr id _ _, _, hl => by
    have hi : id < m := by simpa [AV.lim] using hl
    simp only [AV.ren, Rep, h.own id hi, h.wd id hi]
  | .raw _, _, _ => Iff.rfl
  | .nilI, _, _ => Iff.rfl
  | .iface _ x, _, hl => by
    simp only [AV.ren, Rep]
    exact exists_congr fun y => and_congr_right fun _ => Rep.ren h x y (by simpa [AV.lim] using hl)
  | .nilF, _, _ => Iff.rfl
  | .fn _ cs, _, hl => by
    simp only [AV.ren, Rep]
    exact exists_congr fun y => and_congr_right fun _ => RepL.ren h cs y (by simpa [AV.lim] using hl)
  | .agg cs, _, hl => by
    simp only [AV.ren, Rep]
    exact exists_congr fun y => and_congr_right fun _ => RepL.ren h cs y (by simpa [AV.lim] using hl)
  | .tup cs, _, hl => by
    simp only [AV.ren, Rep]
    exact exists_congr fun y => and_congr_right fun _ => RepL.ren h cs y (by simpa [AV.lim] using hl)
theorem RepL.ren {w : World} {ρ : Nat → Nat} {m : Nat} {gc g : G} (h : Ren ρ m gc g) : ∀ (xs : List AV) (vs : List Value), limL m xs = true → (RepL w g (renL ρ xs) vs ↔ RepL w gc xs vs)
  | [], _, _ => Iff.rfl
  | x :: r, vs, hl => by
    simp only [limL, Bool.and_eq_true] at hl
    simp only [renL, RepL]
    exact exists_congr fun v => exists_congr fun vs' => and_congr_right fun _ => and_congr (Rep.ren h x v hl.1) (RepL.ren h r vs' hl.2)
end

/-! ### the numbers -/

def idx : List Nat → Nat → Option Nat
  | [], _ => none
  | x :: r, i => if Nat.beq x i then some 0 else match idx r i with
    | some j => some (j + 1)
    | none => none

def rho (L : List Nat) (n j : Nat) : Nat := match L[j]? with
  | some i => i
  | none => n + (j - L.length)

/-- The handed numbers are distinct, and below n. -/
def good (n : Nat) : List Nat → Bool
  | [] => true
  | x :: r => Nat.blt x n && (idx r x).isNone && good n r

theorem idx_get : ∀ {L : List Nat} {i j : Nat}, idx L i = some j → L[j]? = some i
  | [], _, _, h => by simp [idx] at h
  | x :: r, i, j, h => by
    simp only [idx] at h
    by_cases hx : Nat.beq x i = true
    · rw [if_pos hx] at h
      obtain rfl := Option.some.inj h
      simp at hx; simp [hx]
    · rw [if_neg hx] at h
      cases hr : idx r i with
      | none => simp [hr] at h
      | some k =>
        simp [hr] at h; subst h
        simpa using idx_get hr

theorem get_idx {n : Nat} : ∀ {L : List Nat} {i j : Nat}, good n L = true → L[j]? = some i → idx L i = some j
  | [], _, _, _, h => by simp at h
  | x :: r, i, 0, hg, h => by simp at h; simp [idx, h]
  | x :: r, i, j + 1, hg, h => by
    simp only [good, Bool.and_eq_true] at hg
    have h' : r[j]? = some i := by simpa using h
    have hi := get_idx hg.2 h'
    have hne : Nat.beq x i = false := by
      cases hb : Nat.beq x i with
      | false => rfl
      | true =>
        have : x = i := by simpa using hb
        subst this
        rw [hi] at hg; simp at hg
    simp [idx, hne, hi]

theorem good_lt {n : Nat} : ∀ {L : List Nat} {i j : Nat}, good n L = true → L[j]? = some i → i < n
  | [], _, _, _, h => by simp at h
  | x :: r, i, 0, hg, h => by
    simp only [good, Bool.and_eq_true] at hg
    simp at h; subst h; simpa using hg.1.1
  | x :: r, i, j + 1, hg, h => by
    simp only [good, Bool.and_eq_true] at hg
    exact good_lt hg.2 (by simpa using h)

theorem rho_lt {L : List Nat} {n j : Nat} (h : j < L.length) : L[j]? = some (rho L n j) := by
  simp [rho, h]

theorem rho_ge {L : List Nat} {n j : Nat} (h : L.length ≤ j) : rho L n j = n + (j - L.length) := by
  have : L[j]? = none := by simp [h]
  simp [rho, this]

theorem rho_inj {L : List Nat} {n i j : Nat} (hg : good n L = true) (h : rho L n i = rho L n j) : i = j := by
  by_cases hi : i < L.length
  · have h1 := rho_lt (n := n) hi
    by_cases hj : j < L.length
    · have h2 := rho_lt (n := n) hj
      rw [← h] at h2
      have e1 := get_idx hg h1
      have e2 := get_idx hg h2
      rw [e1] at e2; exact Option.some.inj e2
    · have := good_lt hg h1
      rw [h, rho_ge (by omega)] at this; omega
  · rw [rho_ge (by omega)] at h
    by_cases hj : j < L.length
    · have := good_lt hg (rho_lt (n := n) hj)
      omega
    · rw [rho_ge (by omega)] at h; omega

/-! ### ghosts -/

def handed (g : G) (L : List Nat) : G where
  blk j := match L[j]? with | some i => g.blk i | none => none
  own j := match L[j]? with | some i => g.own i | none => none
  wd j := match L[j]? with | some i => g.wd i | none => 0
  owner b := match g.owner b with | some i => idx L i | none => none
  top := g.top

def back (g gc : G) (L : List Nat) (n : Nat) : G where
  blk id := if id < n then g.blk id else gc.blk (L.length + (id - n))
  own id := if id < n then g.own id else gc.own (L.length + (id - n))
  wd id := if id < n then g.wd id else gc.wd (L.length + (id - n))
  owner b := match gc.owner b with
    | some j => some (rho L n j)
    | none => match g.owner b with
      | some i => if (idx L i).isSome then none else some i
      | none => none
  top := gc.top

section
variable {g gc : G} {w w' : World} {L : List Nat} {n n' : Nat}

theorem handed_ren (hg : good n L = true) : Ren (rho L n) L.length (handed g L) g where
  blk j hj := by have := rho_lt (n := n) hj; simp [handed, this]
  own j hj := by have := rho_lt (n := n) hj; simp [handed, this]
  wd j hj := by have := rho_lt (n := n) hj; simp [handed, this]
  top := rfl

theorem handed_wf (hg : good n L = true) (h : WF g w n) : WF (handed g L) w L.length where
  topNew := h.topNew
  ownNew b hb := by simp [handed, h.ownNew b hb]
  blkOwner j b hb := by
    simp only [handed] at hb ⊢
    cases hl : L[j]? with
    | none => simp [hl] at hb
    | some i =>
      simp only [hl] at hb
      obtain ⟨k1, k2, k3, k4⟩ := h.blkOwner i b hb
      exact ⟨by rw [k1]; exact get_idx hg hl, k2, k3, (List.getElem?_eq_some_iff.1 hl).1⟩
  ownLt j v hv := by
    simp only [handed] at hv
    cases hl : L[j]? with
    | none => simp [hl] at hv
    | some i => exact (List.getElem?_eq_some_iff.1 hl).1
  ownSl j v hv := by
    simp only [handed] at hv
    cases hl : L[j]? with
    | none => simp [hl] at hv
    | some i => simp only [hl] at hv; exact h.ownSl i v hv
  sep j b hb := by
    simp only [handed] at hb ⊢
    cases hl : L[j]? with
    | none => rfl
    | some i => simp only [hl] at hb; exact h.sep i b hb
  idLt b i hb := by
    simp only [handed] at hb
    cases ho : g.owner b with
    | none => simp [ho] at hb
    | some j =>
      simp only [ho] at hb
      exact (List.getElem?_eq_some_iff.1 (idx_get hb)).1

variable (hg : good n L = true) (hw : WF g w n) (hwc : WF gc w' n') (hf : Frame w (handed g L) L.length w' gc) (hn : L.length ≤ n')

include hg hw hwc hf hn

theorem back_own_none {b i : Nat} (h : g.owner b = some i) (hi : idx L i = none) (hb : b < w.heap.size) : gc.owner b = none ∧ gc.top b = g.top b ∧ w'.heap[b]? = w.heap[b]? ∧ (back g gc L n).owner b = some i := by
  have h0 : (handed g L).owner b = none := by simp [handed, h, hi]
  obtain ⟨k1, k2⟩ := hf.foreign b hb h0
  exact ⟨k1, k2, hf.block b hb h0, by simp [back, k1, h, hi]⟩

theorem back_ren : Ren (rho L n) n' gc (back g gc L n) where
  blk j hj := by
    by_cases h : j < L.length
    · have h1 := rho_lt (n := n) h
      have h2 := good_lt hg h1
      have h3 := hf.blk j h
      simp only [back, h2, if_true]
      rw [h3]; simp [handed, h1]
    · rw [rho_ge (by omega)]
      simp only [back, show ¬ n + (j - L.length) < n by omega, if_false]
      congr 1; omega
  own j hj := by
    by_cases h : j < L.length
    · have h1 := rho_lt (n := n) h
      have h2 := good_lt hg h1
      have h3 := hf.own j h
      simp only [back, h2, if_true]
      rw [h3]; simp [handed, h1]
    · rw [rho_ge (by omega)]
      simp only [back, show ¬ n + (j - L.length) < n by omega, if_false]
      congr 1; omega
  wd j hj := by
    by_cases h : j < L.length
    · have h1 := rho_lt (n := n) h
      have h2 := good_lt hg h1
      have h3 := hf.wd j h
      simp only [back, h2, if_true]
      rw [h3]; simp [handed, h1]
    · rw [rho_ge (by omega)]
      simp only [back, show ¬ n + (j - L.length) < n by omega, if_false]
      congr 1; omega
  top := rfl

theorem back_wf : WF (back g gc L n) w' (n + (n' - L.length)) where
  topNew := hwc.topNew
  ownNew b hb := by
    have h1 := hwc.ownNew b hb
    have h2 := hw.ownNew b (Nat.le_trans hf.size hb)
    simp [back, h1, h2]
  blkOwner id b hb := by
    by_cases hid : id < n
    · have hb' : g.blk id = some b := by simpa [back, hid] using hb
      obtain ⟨k1, k2, k3, k4⟩ := hw.blkOwner id b hb'
      cases hi : idx L id with
      | none =>
        obtain ⟨q1, q2, q3, q4⟩ := back_own_none hg hw hwc hf hn k1 hi k2
        exact ⟨q4, Nat.lt_of_lt_of_le k2 hf.size, by show gc.top b = 0; rw [q2]; exact k3, by omega⟩
      | some j =>
        have hl := idx_get hi
        have hj : j < L.length := (List.getElem?_eq_some_iff.1 hl).1
        have hc : gc.blk j = some b := by rw [hf.blk j hj]; simp [handed, hl, hb']
        obtain ⟨q1, q2, q3, q4⟩ := hwc.blkOwner j b hc
        refine ⟨?_, q2, q3, by omega⟩
        have : rho L n j = id := by have := rho_lt (n := n) hj; rw [hl] at this; exact (Option.some.inj this).symm
        simp [back, q1, this]
    · have hb' : gc.blk (L.length + (id - n)) = some b := by simpa [back, hid] using hb
      obtain ⟨q1, q2, q3, q4⟩ := hwc.blkOwner _ b hb'
      refine ⟨?_, q2, q3, by omega⟩
      have : rho L n (L.length + (id - n)) = id := by rw [rho_ge (by omega)]; omega
      simp [back, q1, this]
  ownLt id v hv := by
    by_cases hid : id < n
    · omega
    · have hb' : gc.own (L.length + (id - n)) = some v := by simpa [back, hid] using hv
      have := hwc.ownLt _ v hb'
      omega
  ownSl id v hv := by
    by_cases hid : id < n
    · exact hw.ownSl id v (by simpa [back, hid] using hv)
    · exact hwc.ownSl _ v (by simpa [back, hid] using hv)
  sep id b hb := by
    by_cases hid : id < n
    · have := hw.sep id b (by simpa [back, hid] using hb)
      simpa [back, hid] using this
    · have := hwc.sep _ b (by simpa [back, hid] using hb)
      simpa [back, hid] using this
  idLt b i hb := by
    simp only [back] at hb
    cases hc : gc.owner b with
    | some j =>
      simp only [hc, Option.some.injEq] at hb
      have := hwc.idLt b j hc
      rw [← hb]
      by_cases hj : j < L.length
      · have := good_lt hg (rho_lt (n := n) hj); omega
      · rw [rho_ge (by omega)]; omega
    | none =>
      simp only [hc] at hb
      cases ho : g.owner b with
      | none => simp [ho] at hb
      | some j =>
        simp only [ho] at hb
        split at hb
        · cases hb
        · obtain rfl := Option.some.inj hb
          have := hw.idLt b _ ho; omega

theorem back_mono : Mono w g w' (back g gc L n) where
  t := ⟨hf.top, hf.stable⟩
  blk id b hb := by
    have := (hw.blkOwner id b hb).2.2.2
    simpa [back, this] using hb
  own id v hv := by
    have := hw.ownLt id v hv
    simpa [back, this] using hv
  wd id v hv := by
    have := hw.ownLt id v hv
    simp [back, this]

theorem back_frame {w0 : World} {g0 : G} {n0 : Nat} (h : Frame w0 g0 n0 w g) (hn0 : n0 ≤ n) : Frame w0 g0 n0 w' (back g gc L n) where
  os := hf.os.trans h.os
  tape := hf.tape.trans h.tape
  output := hf.output.trans h.output
  size := Nat.le_trans h.size hf.size
  block b hb ho := by
    have h1 := h.foreign b hb ho
    have h0 : (handed g L).owner b = none := by simp [handed, h1.1]
    exact (hf.block b (Nat.lt_of_lt_of_le hb h.size) h0).trans (h.block b hb ho)
  foreign b hb ho := by
    have h1 := h.foreign b hb ho
    have h0 : (handed g L).owner b = none := by simp [handed, h1.1]
    obtain ⟨k1, k2⟩ := hf.foreign b (Nat.lt_of_lt_of_le hb h.size) h0
    exact ⟨by simp [back, k1, h1.1], k2.trans h1.2⟩
  top b := Nat.le_trans (h.top b) (hf.top b)
  stable b o ho := (hf.stable b o (Nat.lt_of_lt_of_le ho (h.top b))).trans (h.stable b o ho)
  blk id hi := by
    have : id < n := by omega
    simp [back, this, h.blk id hi]
  own id hi := by
    have : id < n := by omega
    simp [back, this, h.own id hi]
  wd id hi := by
    have : id < n := by omega
    simp [back, this, h.wd id hi]
end
end Go.Pv
