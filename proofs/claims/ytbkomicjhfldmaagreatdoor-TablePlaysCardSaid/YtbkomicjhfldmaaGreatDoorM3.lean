/- The texts of a proof, put together by a program of this session's; names are short for the size's sake. -/
import Derived.Laws.Bits64b
import Derived.Deep.AppendSrc
import Derived.Test.YtbkomicjhfldmaaGreatDoorM2
namespace Go.Pv
set_option linter.unusedSimpArgs false
set_option linter.unusedSectionVars false
set_option linter.unusedVariables false
section
variable {P : Program} [dI P] {s : St} {t t2 : TypeId} {x y : Operand} {k k' : IntKind} {op : Op}
theorem Hb {v v' : Int} (h : oF P s op = some (.int k v)) (e : v = v') : oF P s op = some (.int k v') := by rw [h, e]
theorem AD {a b : Int} (hx : gj s x = .int k a) (hy : gj s y = .int k' b) (h0 : ¬ b < 0) : oF P s (.binOp .shr t x y t2) = some (.int k (a.fdiv (2 ^ min b.toNat k.bits))) := by
 simp only [oF, hx, hy, rB, v7, if_true, HS, if_neg h0]
theorem EX {a b : Int} (hx : gj s x = .int k a) (hy : gj s y = .int k' b) (h0 : ¬ b < 0) : oF P s (.binOp .shl t x y t2) = some (.int k (k.wrap (a * 2 ^ min b.toNat k.bits))) := by
 simp only [oF, hx, hy, rB, v7, if_true, HS, if_neg h0]
theorem pU {m : Nat} (h : m < 18446744073709551616) : IntKind.wrap .u64 (m : Int) = m := by
 unfold IntKind.wrap
 simp [IntKind.signed, IntKind.bits]
 omega
theorem xO {m : Nat} (h : m < 9223372036854775808) : IntKind.wrap .i64 (m : Int) = m := by
 have := gZ (n := (m : Int)) (by omega)
 exact this
end
end Go.Pv
namespace Go.Pv
set_option linter.unusedSimpArgs false
set_option linter.unusedSectionVars false
set_option linter.unusedVariables false
mutual
def AV.ren (ρ : Nat → Nat) : AV → AV
 | .ptr id off => .ptr (ρ id) off
 | .own id => .own (ρ id)
 | .eptr id r c => .eptr (ρ id) r c
 | .via id k => .via (ρ id) k
 | .iface t x => .iface t (AV.ren ρ x)
 | .fn f cs => .fn f (gH ρ cs)
 | .bfn f cs => .bfn f (gH ρ cs)
 | .agg cs => .agg (gH ρ cs)
 | .tup cs => .tup (gH ρ cs)
 | x => x
def gH (ρ : Nat → Nat) : List AV → List AV
 | [] => []
 | x :: r => AV.ren ρ x :: gH ρ r
end
structure Ren (ρ : Nat → Nat) (m : Nat) (gc g : G) : Prop where
 blk : ∀ j, j < m → g.blk (ρ j) = gc.blk j
 own : ∀ j, j < m → g.own (ρ j) = gc.own j
 wd : ∀ j, j < m → g.wd (ρ j) = gc.wd j
 top : g.top = gc.top
mutual
theorem bU.ren {w : World} {ρ : Nat → Nat} {m : Nat} {gc g : G} (h : Ren ρ m gc g) : ∀ (x : AV) (v : Value), x.lim m = true → (bU w g (x.ren ρ) v ↔ bU w gc x v)
 | .any, _, _ => Iff.rfl
 | .bool _, _, _ => Iff.rfl
 | .int _ _, _, _ => Iff.rfl
 | .str _, _, _ => Iff.rfl
 | .nilp, _, _ => Iff.rfl
 | .nilS, _, _ => Iff.rfl
 | .nilM, _, _ => Iff.rfl
 | .ptr id _, _, hl => by
  have hi : id < m := by simpa [AV.lim] using hl
  simp only [AV.ren, bU, h.blk id hi]
 | .rd _, _, _ => by simp only [AV.ren, bU, h.top]
 | .sl _, _, _ => by simp only [AV.ren, bU, h.top]
 | .own id, _, hl => by
  have hi : id < m := by simpa [AV.lim] using hl
  simp only [AV.ren, bU, h.own id hi]
 | .eptr id _ _, _, hl => by
  have hi : id < m := by simpa [AV.lim] using hl
  simp only [AV.ren, bU, h.own id hi, h.wd id hi]
 | .via id _, _, hl => by
  have hi : id < m := by simpa [AV.lim] using hl
  simp only [AV.ren, bU, h.own id hi, h.wd id hi]
 | .raw _, _, _ => Iff.rfl
 | .nilI, _, _ => Iff.rfl
 | .err _ _, _, _ => Iff.rfl
 | .iface _ x, _, hl => by
  simp only [AV.ren, bU]
  exact exists_congr fun y => and_congr_right fun _ => bU.ren h x y (by simpa [AV.lim] using hl)
 | .nilF, _, _ => Iff.rfl
 | .fn _ cs, _, hl => by
  simp only [AV.ren, bU]
  exact exists_congr fun y => and_congr_right fun _ => aG.ren h cs y (by simpa [AV.lim] using hl)
 | .bfn _ cs, _, hl => by
  simp only [AV.ren, bU]
  exact exists_congr fun y => and_congr_right fun _ => aG.ren h cs y (by simpa [AV.lim] using hl)
 | .agg cs, _, hl => by
  simp only [AV.ren, bU]
  exact exists_congr fun y => and_congr_right fun _ => aG.ren h cs y (by simpa [AV.lim] using hl)
 | .tup cs, _, hl => by
  simp only [AV.ren, bU]
  exact exists_congr fun y => and_congr_right fun _ => aG.ren h cs y (by simpa [AV.lim] using hl)
theorem aG.ren {w : World} {ρ : Nat → Nat} {m : Nat} {gc g : G} (h : Ren ρ m gc g) : ∀ (xs : List AV) (vs : List Value), dT m xs = true → (aG w g (gH ρ xs) vs ↔ aG w gc xs vs)
 | [], _, _ => Iff.rfl
 | x :: r, vs, hl => by
  simp only [dT, Bool.and_eq_true] at hl
  simp only [gH, aG]
  exact exists_congr fun v => exists_congr fun vs' => and_congr_right fun _ => and_congr (bU.ren h x v hl.1) (aG.ren h r vs' hl.2)
end
def ej : List Nat → Nat → Option Nat
 | [], _ => none
 | x :: r, i => if Nat.beq x i then some 0 else match ej r i with
  | some j => some (j + 1)
  | none => none
def gz (L : List Nat) (n j : Nat) : Nat := match L[j]? with
 | some i => i
 | none => n + (j - L.length)
def fH (n : Nat) : List Nat → Bool
 | [] => true
 | x :: r => Nat.blt x n && (ej r x).isNone && fH n r
theorem pp : ∀ {L : List Nat} {i j : Nat}, ej L i = some j → L[j]? = some i
 | [], _, _, h => by simp [ej] at h
 | x :: r, i, j, h => by
  simp only [ej] at h
  by_cases hx : Nat.beq x i = true
  ·
   rw [if_pos hx] at h
   obtain rfl := Ke h
   simp at hx; simp [hx]
  ·
   rw [if_neg hx] at h
   cases hr : ej r i with
   | none => simp [hr] at h
   | some k =>
    simp [hr] at h; subst h
    simpa using pp hr
theorem lY {n : Nat} : ∀ {L : List Nat} {i j : Nat}, fH n L = true → L[j]? = some i → ej L i = some j
 | [], _, _, _, h => by simp at h
 | x :: r, i, 0, hg, h => by simp at h; simp [ej, h]
 | x :: r, i, j + 1, hg, h => by
  simp only [fH, Bool.and_eq_true] at hg
  have h' : r[j]? = some i := by simpa using h
  have hi := lY hg.2 h'
  have hne : Nat.beq x i = false := by
   cases hb : Nat.beq x i with
   | false => rfl
   | true =>
    have : x = i := by simpa using hb
    subst this
    rw [hi] at hg; simp at hg
  simp [ej, hne, hi]
theorem mh {n : Nat} : ∀ {L : List Nat} {i j : Nat}, fH n L = true → L[j]? = some i → i < n
 | [], _, _, _, h => by simp at h
 | x :: r, i, 0, hg, h => by
  simp only [fH, Bool.and_eq_true] at hg
  simp at h; subst h; simpa using hg.1.1
 | x :: r, i, j + 1, hg, h => by
  simp only [fH, Bool.and_eq_true] at hg
  exact mh hg.2 (by simpa using h)
theorem gA {L : List Nat} {n j : Nat} (h : j < L.length) : L[j]? = some (gz L n j) := by
 simp [gz, h]
theorem k9 {L : List Nat} {n j : Nat} (h : L.length ≤ j) : gz L n j = n + (j - L.length) := by
 have : L[j]? = none := by simp [h]
 simp [gz, this]
theorem Ay {L : List Nat} {n i j : Nat} (hg : fH n L = true) (h : gz L n i = gz L n j) : i = j := by
 by_cases hi : i < L.length
 ·
  have h1 := gA (n := n) hi
  by_cases hj : j < L.length
  ·
   have h2 := gA (n := n) hj
   rw [← h] at h2
   have e1 := lY hg h1
   have e2 := lY hg h2
   rw [e1] at e2; exact Ke e2
  ·
   have := mh hg h1
   rw [h, k9 (by omega)] at this; omega
 ·
  rw [k9 (by omega)] at h
  by_cases hj : j < L.length
  ·
   have := mh hg (gA (n := n) hj)
   omega
  · rw [k9 (by omega)] at h; omega
def handed (g : G) (L : List Nat) : G where
 blk j := match L[j]? with | some i => g.blk i | none => none
 own j := match L[j]? with | some i => g.own i | none => none
 wd j := match L[j]? with | some i => g.wd i | none => 0
 owner b := match g.owner b with | some i => ej L i | none => none
 top := g.top
def ft (g gc : G) (L : List Nat) (n : Nat) : G where
 blk id := if id < n then g.blk id else gc.blk (L.length + (id - n))
 own id := if id < n then g.own id else gc.own (L.length + (id - n))
 wd id := if id < n then g.wd id else gc.wd (L.length + (id - n))
 owner b := match gc.owner b with
  | some j => some (gz L n j)
  | none => match g.owner b with
   | some i => if (ej L i).isSome then none else some i
   | none => none
 top := gc.top
section
variable {g gc : G} {w w' : World} {L : List Nat} {n n' : Nat}
theorem z8 (hg : fH n L = true) : Ren (gz L n) L.length (handed g L) g where
 blk j hj := by have := gA (n := n) hj; simp [handed, this]
 own j hj := by have := gA (n := n) hj; simp [handed, this]
 wd j hj := by have := gA (n := n) hj; simp [handed, this]
 top := rfl
theorem qF (hg : fH n L = true) (h : WF g w n) : WF (handed g L) w L.length where
 topNew := h.topNew
 ownNew b hb := by simp [handed, h.ownNew b hb]
 blkOwner j b hb := by
  simp only [handed] at hb ⊢
  cases hl : L[j]? with
  | none => simp [hl] at hb
  | some i =>
   simp only [hl] at hb
   obtain ⟨k1, k2, k3, k4⟩ := h.blkOwner i b hb
   exact ⟨by rw [k1]; exact lY hg hl, k2, k3, (List.getElem?_eq_some_iff.1 hl).1⟩
 ownLt j v hv := by
  simp only [handed] at hv
  cases hl : L[j]? with
  | none => simp [hl] at hv
  | some i => exact (List.getElem?_eq_some_iff.1 hl).1
 ownSl j v hv := by
  simp only [handed] at hv
  cases hl : L[j]? with
  | none => simp [hl] at hv
  | some i => simp only [hl] at hv; exact h.ownSl i v hv
 sep j b hb := by
  simp only [handed] at hb ⊢
  cases hl : L[j]? with
  | none => rfl
  | some i => simp only [hl] at hb; exact h.sep i b hb
 idLt b i hb := by
  simp only [handed] at hb
  cases ho : g.owner b with
  | none => simp [ho] at hb
  | some j =>
   simp only [ho] at hb
   exact (List.getElem?_eq_some_iff.1 (pp hb)).1
variable (hg : fH n L = true) (hw : WF g w n) (hwc : WF gc w' n') (hf : gx w (handed g L) L.length w' gc) (hn : L.length ≤ n')
include hg hw hwc hf hn
theorem ln {b i : Nat} (h : g.owner b = some i) (hi : ej L i = none) (hb : b < w.heap.size) : gc.owner b = none ∧ gc.top b = g.top b ∧ w'.heap[b]? = w.heap[b]? ∧ (ft g gc L n).owner b = some i := by
 have h0 : (handed g L).owner b = none := by simp [handed, h, hi]
 obtain ⟨k1, k2⟩ := hf.foreign b hb h0
 exact ⟨k1, k2, hf.block b hb h0, by simp [ft, k1, h, hi]⟩
theorem tH : Ren (gz L n) n' gc (ft g gc L n) where
 blk j hj := by
  by_cases h : j < L.length
  ·
   have h1 := gA (n := n) h
   have h2 := mh hg h1
   have h3 := hf.blk j h
   simp only [ft, h2, if_true]
   rw [h3]; simp [handed, h1]
  ·
   rw [k9 (by omega)]
   simp only [ft, show ¬ n + (j - L.length) < n by omega, if_false]
   congr 1; omega
 own j hj := by
  by_cases h : j < L.length
  ·
   have h1 := gA (n := n) h
   have h2 := mh hg h1
   have h3 := hf.own j h
   simp only [ft, h2, if_true]
   rw [h3]; simp [handed, h1]
  ·
   rw [k9 (by omega)]
   simp only [ft, show ¬ n + (j - L.length) < n by omega, if_false]
   congr 1; omega
 wd j hj := by
  by_cases h : j < L.length
  ·
   have h1 := gA (n := n) h
   have h2 := mh hg h1
   have h3 := hf.wd j h
   simp only [ft, h2, if_true]
   rw [h3]; simp [handed, h1]
  ·
   rw [k9 (by omega)]
   simp only [ft, show ¬ n + (j - L.length) < n by omega, if_false]
   congr 1; omega
 top := rfl
theorem Fx : WF (ft g gc L n) w' (n + (n' - L.length)) where
 topNew := hwc.topNew
 ownNew b hb := by
  have h1 := hwc.ownNew b hb
  have h2 := hw.ownNew b (Nat.le_trans hf.size hb)
  simp [ft, h1, h2]
 blkOwner id b hb := by
  by_cases hid : id < n
  ·
   have hb' : g.blk id = some b := by simpa [ft, hid] using hb
   obtain ⟨k1, k2, k3, k4⟩ := hw.blkOwner id b hb'
   cases hi : ej L id with
   | none =>
    obtain ⟨q1, q2, q3, q4⟩ := ln hg hw hwc hf hn k1 hi k2
    exact ⟨q4, Nat.lt_of_lt_of_le k2 hf.size, by show gc.top b = 0; rw [q2]; exact k3, by omega⟩
   | some j =>
    have hl := pp hi
    have hj : j < L.length := (List.getElem?_eq_some_iff.1 hl).1
    have hc : gc.blk j = some b := by rw [hf.blk j hj]; simp [handed, hl, hb']
    obtain ⟨q1, q2, q3, q4⟩ := hwc.blkOwner j b hc
    refine ⟨?_, q2, q3, by omega⟩
    have : gz L n j = id := by have := gA (n := n) hj; rw [hl] at this; exact (Ke this).symm
    simp [ft, q1, this]
  ·
   have hb' : gc.blk (L.length + (id - n)) = some b := by simpa [ft, hid] using hb
   obtain ⟨q1, q2, q3, q4⟩ := hwc.blkOwner _ b hb'
   refine ⟨?_, q2, q3, by omega⟩
   have : gz L n (L.length + (id - n)) = id := by rw [k9 (by omega)]; omega
   simp [ft, q1, this]
 ownLt id v hv := by
  by_cases hid : id < n
  · omega
  ·
   have hb' : gc.own (L.length + (id - n)) = some v := by simpa [ft, hid] using hv
   have := hwc.ownLt _ v hb'
   omega
 ownSl id v hv := by
  by_cases hid : id < n
  · exact hw.ownSl id v (by simpa [ft, hid] using hv)
  · exact hwc.ownSl _ v (by simpa [ft, hid] using hv)
 sep id b hb := by
  by_cases hid : id < n
  ·
   have := hw.sep id b (by simpa [ft, hid] using hb)
   simpa [ft, hid] using this
  ·
   have := hwc.sep _ b (by simpa [ft, hid] using hb)
   simpa [ft, hid] using this
 idLt b i hb := by
  simp only [ft] at hb
  cases hc : gc.owner b with
  | some j =>
   simp only [hc, Option.some.injEq] at hb
   have := hwc.idLt b j hc
   rw [← hb]
   by_cases hj : j < L.length
   · have := mh hg (gA (n := n) hj); omega
   · rw [k9 (by omega)]; omega
  | none =>
   simp only [hc] at hb
   cases ho : g.owner b with
   | none => simp [ho] at hb
   | some j =>
    simp only [ho] at hb
    split at hb
    · cases hb
    ·
     obtain rfl := Ke hb
     have := hw.idLt b _ ho; omega
theorem BL : gC w g w' (ft g gc L n) where
 t := ⟨hf.top, hf.stable⟩
 blk id b hb := by
  have := (hw.blkOwner id b hb).2.2.2
  simpa [ft, this] using hb
 own id v hv := by
  have := hw.ownLt id v hv
  simpa [ft, this] using hv
 wd id v hv := by
  have := hw.ownLt id v hv
  simp [ft, this]
theorem ze {w0 : World} {g0 : G} {n0 : Nat} (h : gx w0 g0 n0 w g) (hn0 : n0 ≤ n) : gx w0 g0 n0 w' (ft g gc L n) where
 os := hf.os.trans h.os
 tape := hf.tape.trans h.tape
 output := hf.output.trans h.output
 size := Nat.le_trans h.size hf.size
 block b hb ho := by
  have h1 := h.foreign b hb ho
  have h0 : (handed g L).owner b = none := by simp [handed, h1.1]
  exact (hf.block b (Nat.lt_of_lt_of_le hb h.size) h0).trans (h.block b hb ho)
 foreign b hb ho := by
  have h1 := h.foreign b hb ho
  have h0 : (handed g L).owner b = none := by simp [handed, h1.1]
  obtain ⟨k1, k2⟩ := hf.foreign b (Nat.lt_of_lt_of_le hb h.size) h0
  exact ⟨by simp [ft, k1, h1.1], k2.trans h1.2⟩
 top b := Nat.le_trans (h.top b) (hf.top b)
 stable b o ho := (hf.stable b o (Nat.lt_of_lt_of_le ho (h.top b))).trans (h.stable b o ho)
 blk id hi := by
  have : id < n := by omega
  simp [ft, this, h.blk id hi]
 own id hi := by
  have : id < n := by omega
  simp [ft, this, h.own id hi]
 wd id hi := by
  have : id < n := by omega
  simp [ft, this, h.wd id hi]
end
end Go.Pv
namespace Go.Pv
set_option linter.unusedSimpArgs false
set_option linter.unusedSectionVars false
set_option linter.unusedVariables false
def sQ (H : List (Nat × Nat × AV)) (id : Nat) : Nat → Nat → List AV
 | 0, _ => []
 | k + 1, off => match d3 H id off with
  | some x => x :: sQ H id k (off + 1)
  | none => []
def Ef (H : List (Nat × Nat × AV)) : Nat → AV → AV
 | 0, _ => .any
 | k + 1, .ptr id off => .rd ((sQ H id 24 off).map (Ef H k))
 | k + 1, .fn f cs => .fn f (cs.map (Ef H k))
 | k + 1, .bfn f cs => .bfn f (cs.map (Ef H k))
 | k + 1, .agg cs => .agg (cs.map (Ef H k))
 | k + 1, .tup cs => .tup (cs.map (Ef H k))
 | k + 1, .iface t x => .iface t (Ef H k x)
 | _ + 1, .own _ => .any
 | _ + 1, .eptr _ _ _ => .any
 | _ + 1, .via _ _ => .any
 | _ + 1, x => x
mutual
def flat : AV → Bool
 | .ptr _ _ | .own _ | .rd _ | .sl _ | .eptr _ _ _ | .via _ _ => false
 | .iface _ x => flat x
 | .fn _ cs | .bfn _ cs | .agg cs | .tup cs => AE cs
 | _ => true
def AE : List AV → Bool
 | [] => true
 | x :: r => flat x && AE r
end
mutual
theorem bU.flat {w w' : World} {g g' : G} : ∀ (x : AV) (v : Value), Go.Pv.flat x = true → bU w g x v → bU w' g' x v
 | .any, _, _, _ => trivial
 | .bool _, _, _, r => r
 | .int _ _, _, _, r => r
 | .str _, _, _, r => r
 | .nilp, _, _, r => r
 | .nilS, _, _, r => r
 | .nilM, _, _, r => r
 | .ptr _ _, _, h, _ => by simp [Go.Pv.flat] at h
 | .rd _, _, h, _ => by simp [Go.Pv.flat] at h
 | .sl _, _, h, _ => by simp [Go.Pv.flat] at h
 | .own _, _, h, _ => by simp [Go.Pv.flat] at h
 | .eptr _ _ _, _, h, _ => by simp [Go.Pv.flat] at h
 | .via _ _, _, h, _ => by simp [Go.Pv.flat] at h
 | .raw _, _, _, r => r
 | .nilI, _, _, r => r
 | .err _ _, _, _, r => r
 | .iface _ x, _, h, ⟨y, e, r⟩ => ⟨y, e, bU.flat x y (by simpa [Go.Pv.flat] using h) r⟩
 | .nilF, _, _, r => r
 | .fn _ cs, _, h, ⟨vs, e, r⟩ => ⟨vs, e, aG.flat cs vs (by simpa [Go.Pv.flat] using h) r⟩
 | .bfn _ cs, _, h, ⟨vs, e, r⟩ => ⟨vs, e, aG.flat cs vs (by simpa [Go.Pv.flat] using h) r⟩
 | .agg cs, _, h, ⟨vs, e, r⟩ => ⟨vs, e, aG.flat cs vs (by simpa [Go.Pv.flat] using h) r⟩
 | .tup cs, _, h, ⟨vs, e, r⟩ => ⟨vs, e, aG.flat cs vs (by simpa [Go.Pv.flat] using h) r⟩
theorem aG.flat {w w' : World} {g g' : G} : ∀ (xs : List AV) (vs : List Value), AE xs = true → aG w g xs vs → aG w' g' xs vs
 | [], _, _, r => r
 | x :: xs, _, h, ⟨v, vs', e, r, rest⟩ => by
  simp only [AE, Bool.and_eq_true] at h
  exact ⟨v, vs', e, bU.flat x v h.1 r, aG.flat xs vs' h.2 rest⟩
end
def oD (w : World) (top : Nat → Nat) : Nat → Nat := fun b => max (top b) (ed w b)
section
variable {w : World} {g : G} {H : List (Nat × Nat × AV)}
theorem sI : pB w g.top w (oD w g.top) := ⟨fun b => Nat.le_max_left _ _, fun _ _ _ => rfl⟩
theorem iY {f : AV → AV} {g' : G} : ∀ {xs : List AV} {vs : List Value}, (∀ x v, bU w g x v → bU w g' (f x) v) → aG w g xs vs → aG w g' (xs.map f) vs
 | [], _, _, h => h
 | x :: xs, _, hf, ⟨v, vs', e, r, rest⟩ => ⟨v, vs', e, hf x v r, iY hf rest⟩
theorem sU {b : Nat} {f : AV → AV} (hH : nW H w g) (hf : ∀ x v, bU w g x v → bU w (G.ofTop (oD w g.top)) (f x) v) {id : Nat} (hb : g.blk id = some b) :
  ∀ (k off : Nat), cq w (oD w g.top) b off ((sQ H id k off).map f)
 | 0, _ => by simp [sQ, cq]
 | k + 1, off => by
  simp only [sQ]
  cases hl : d3 H id off with
  | none => simp [cq]
  | some x =>
   obtain ⟨b', c, e, hb', hw, v, hv, r⟩ := hH id off x hl
   rw [hb] at hb'
   obtain rfl := Ke hb'
   have hlt : off < c.size := (Array.getElem?_eq_some_iff.1 hv).1
   refine ⟨⟨?_, v, ?_, hf x v r⟩, sU hH hf hb k (off + 1)⟩
   ·
    have : ed w b = c.size := by simp [ed, hw]
    simp only [oD, this]; omega
   · simp [World.cell?, hw, hv]
theorem wT (hH : nW H w g) : ∀ (k : Nat) (x : AV) (v : Value), bU w g x v → bU w (G.ofTop (oD w g.top)) (Ef H k x) v
 | 0, _, _, _ => trivial
 | k + 1, x, v, h => by
  have ih := wT hH k
  cases x with
  | ptr id off =>
   obtain ⟨b, hb, rfl⟩ := h
   exact ⟨b, off, rfl, sU hH ih hb 24 off⟩
  | fn f cs => obtain ⟨vs, e, r⟩ := h; exact ⟨vs, e, iY ih r⟩
  | bfn f cs => obtain ⟨vs, e, r⟩ := h; exact ⟨vs, e, iY ih r⟩
  | agg cs => obtain ⟨vs, e, r⟩ := h; exact ⟨vs, e, iY ih r⟩
  | tup cs => obtain ⟨vs, e, r⟩ := h; exact ⟨vs, e, iY ih r⟩
  | iface t y => obtain ⟨u, e, r⟩ := h; exact ⟨u, e, ih y u r⟩
  | own id => trivial
  | eptr _ _ _ => trivial
  | via _ _ => trivial
  | raw v => exact h
  | rd cs => obtain ⟨b, o, e, r⟩ := h; exact ⟨b, o, e, cq.mono cs b o sI r⟩
  | sl xs => obtain ⟨a, cap, e, hc, hn, hr⟩ := h; exact ⟨a, cap, e, hc, hn, fun ad ha => ⟨(hr ad ha).1, bk.mono xs _ _ sI (hr ad ha).2⟩⟩
  | any => trivial
  | bool b => exact h
  | int k n => exact h
  | str s => exact h
  | nilp => exact h
  | nilS => exact h
  | nilM => exact h
  | nilI => exact h
  | nilF => exact h
  | err t e => exact h
end
def sJ (w : World) (top top' : Nat → Nat) : Nat → Nat := fun b => if b < w.heap.size then top b else top' b
theorem PF.low {w w' : World} {top top' : Nat → Nat} (h : PF w (oD w top) w' top') : PF w top w' (sJ w top top') where
 below := h.below
 old b hb := by simp [sJ, hb]
 new b hb := by
  have : ¬ b < w.heap.size := by have := h.below.size; omega
  simp [sJ, this, h.new b hb]
section
variable {P : Program} {N n0 : Nat} {Q : bY} {s : St} {w0 : World} {g0 : G} {a : Act} {w : World} {g : G} {ops : Array Oper} {o : Oper} {rest : List Oper}
theorem za {fop : Operand} {args : Array Operand} {ats : Array TypeId} {f : FuncId} {caps : List AV} {v : AV} (hop : o.op = .call ⟨.value fop, args, ats⟩)
  (hf : ev s.σ fop = .fn f caps) (call : ai P f ((args.toList.map (gj s) ++ caps).map (Ef s.H 8)) (· = v)) (hv : flat v = true) : yQ P N n0 s o v := by
 intro w0 g0 a w g hi Q
 have hfr := bA hi.slots fop
 rw [hf] at hfr
 obtain ⟨cs, hfe, hcs⟩ := hfr
 have hargs : aG w g (args.toList.map (gj s) ++ caps) (args.toList.map a.eval ++ cs) := aG.append (lz hi args.toList) hcs
 have hargs' := iY (wT hi.cells 8) hargs
 have hcall := call.2 w (oD w g.top) _ (fun b hb => by simp [oD, hi.wf.topNew b hb, mP w b hb]) (hi.laidNow.top _) hargs'
 obtain ⟨dst, op, type, pos, after, guard⟩ := o
 subst hop
 have hrun : (execOp a.eval ⟨dst, .call ⟨.value fop, args, ats⟩, type, pos, after, guard⟩).run P w = .ok (.enter f (args.toList.map a.eval ++ cs).toArray) w := by
  have : (args.map a.eval ++ cs.toArray) = (args.toList.map a.eval ++ cs).toArray := by
   rw [map_toArray]; simp
  simp only [execOp, resolve, hfe, Deferred.ofValue, Sem.run_bind, Sem.run_pure, Result.andThen_ok, invoke]
  rw [show (#[] ++ args.map a.eval) = args.map a.eval by simp, this]
  exact ep call.1 _ w
 simp only [Oper.wp, hrun, Oper.upon]
 refine hcall.mono ?_
 rintro e w' ⟨u, r, top', rfl, rfl, hr, hp⟩
 exact ⟨u, sJ w g.top top', rfl, bU.flat _ _ hv hr, hp.low⟩
theorem y4 {fop : Operand} {args : Array Operand} {ats : Array TypeId} {f : FuncId} {caps : List AV} {K : AV → Prop} (hg : o.guard = none) (hop : o.op = .call ⟨.value fop, args, ats⟩)
  (hd : uw N o.dst = true) (hf : ev s.σ fop = .fn f caps) (call : ai P f ((args.toList.map (gj s) ++ caps).map (Ef s.H 8)) K) (hK : ∀ r, K r → flat r = true)
  (k : ∀ r, K r → aM P N n0 ops rest Q (s.put o.dst r)) : aM P N n0 ops (o :: rest) Q s := by
 intro w0 g0 a w g hi
 have hfr := bA hi.slots fop
 rw [hf] at hfr
 obtain ⟨cs, hfe, hcs⟩ := hfr
 have hargs : aG w g (args.toList.map (gj s) ++ caps) (args.toList.map a.eval ++ cs) := aG.append (lz hi args.toList) hcs
 have hargs' := iY (wT hi.cells 8) hargs
 have hcall := call.2 w (oD w g.top) _ (fun b hb => by simp [oD, hi.wf.topNew b hb, mP w b hb]) (hi.laidNow.top _) hargs'
 refine hZ hg ?_
 obtain ⟨dst, op, type, pos, after, guard⟩ := o
 subst hop
 have hrun : (execOp a.eval ⟨dst, .call ⟨.value fop, args, ats⟩, type, pos, after, guard⟩).run P w = .ok (.enter f (args.toList.map a.eval ++ cs).toArray) w := by
  have : (args.map a.eval ++ cs.toArray) = (args.toList.map a.eval ++ cs).toArray := by
   rw [map_toArray]; simp
  simp only [execOp, resolve, hfe, Deferred.ofValue, Sem.run_bind, Sem.run_pure, Result.andThen_ok, invoke]
  rw [show (#[] ++ args.map a.eval) = args.map a.eval by simp, this]
  exact ep call.1 _ w
 simp only [Oper.wp, hrun, Oper.upon]
 refine hcall.mono ?_
 rintro e w' ⟨v, r, top', rfl, hKr, hr, hp⟩
 obtain ⟨hi', _⟩ := hi.called hp.low
 have hr' : bU w' { g with top := sJ w g.top top' } r v := bU.flat _ _ (hK r hKr) hr
 exact k r hKr w0 g0 _ w' _ (hi'.put hr' hd)
end
section
variable {P : Program} [dI P] {N n0 : Nat} {Q : bY} {ops : Array Oper} {rest : List Oper} {σ : List (Nat × AV)} {H A : List (Nat × Nat × AV)} {O : List (Nat × Kind)} {n i : Nat}
 {d : Nat} {ty : TypeId} {pos : String} {af : Array Edge} {gd : Option (Nat × Bool)}
theorem rf {fop : Operand} {args : Array Operand} {ats : Array TypeId} {f : FuncId} {caps : List AV} {r : AV} (hd : Nat.blt d N = true) (hf : ev σ fop = .fn f caps)
  (call : ai P f ((args.toList.map (gj ⟨σ, H, O, n⟩) ++ caps).map (Ef H 8)) (· = r)) (hr : flat r = true)
  (k : aM P N n0 ops rest Q ⟨(d, r) :: σ, H, O, n⟩) : aM P N n0 ops (⟨some d, .call ⟨.value fop, args, ats⟩, ty, pos, af, none⟩ :: rest) Q ⟨σ, H, O, n⟩ :=
 y4 Z Z hd hf call (fun _ e => by subst e; exact hr) (fun _ e => by subst e; exact k)
theorem df {K : St → Prop} {fop : Operand} {args : Array Operand} {ats : Array TypeId} {f : FuncId} {caps : List AV} {r : AV} (hd : Nat.blt d N = true) (hg : bH ops σ gd = some true)
  (hf : ev (ci ⟨some d, .call ⟨.value fop, args, ats⟩, ty, pos, af, gd⟩ σ) fop = .fn f caps)
  (call : ∀ m, ai P f ((args.toList.map (gj ⟨ci ⟨some d, .call ⟨.value fop, args, ats⟩, ty, pos, af, gd⟩ σ, H, O, m⟩) ++ caps).map (Ef H 8)) (· = r)) (hr : flat r = true)
  (k : DP P N n0 ops H O (i + 1) rest ((d, r) :: σ) n A K) : DP P N n0 ops H O i (⟨some d, .call ⟨.value fop, args, ats⟩, ty, pos, af, gd⟩ :: rest) σ n A K := by
 obtain ⟨σ', n', A', al, hp, hk⟩ := k
 exact ⟨σ', n', A', al, .go rfl hd hg (fun m => za rfl hf (call m) hr) hp, hk⟩
end
end Go.Pv
namespace Go.Pv
set_option linter.unusedSimpArgs false
set_option linter.unusedSectionVars false
set_option linter.unusedVariables false
def Kind.ren (ρ : Nat → Nat) : Kind → Kind
 | .row z xs => .row z xs
 | .wr z xs => .wr z (xs.map (gH ρ))
 | .map ks vs => .map (gH ρ ks) (gH ρ vs)
 | .sem s => .sem s
def Bc (ρ : Nat → Nat) (m : Nat) (gc g : G) : Prop := ∀ j, j < m → ∀ b, g.owner b = some (ρ j) ↔ gc.owner b = some j
theorem qP {ρ : Nat → Nat} : ∀ {xs ys : List AV}, gH ρ (xs ++ ys) = gH ρ xs ++ gH ρ ys
 | [], _ => rfl
 | x :: xs, ys => by simp only [List.cons_append, gH, qP (xs := xs)]
theorem pP {ρ : Nat → Nat} : ∀ {xs : List (List AV)}, (xs.map (gH ρ)).flatten = gH ρ xs.flatten
 | [] => rfl
 | x :: xs => by simp only [List.map_cons, List.flatten_cons, qP, pP (xs := xs)]
theorem ny {ρ : Nat → Nat} : ∀ {xs : List AV}, (gH ρ xs).length = xs.length
 | [] => rfl
 | x :: xs => by simp only [gH, List.length_cons, ny (xs := xs)]
theorem eB.ren {ρ : Nat → Nat} {z : Nat} {xs : List (List AV)} : eB z (xs.map (gH ρ)) ↔ eB z xs := by
 unfold eB
 constructor
 ·
  intro h r hr
  have := h _ (List.mem_map.2 ⟨r, hr, rfl⟩)
  rwa [ny] at this
 ·
  intro h r hr
  obtain ⟨q, hq, rfl⟩ := List.mem_map.1 hr
  rw [ny]; exact h q hq
theorem Kind.ren_iff {w : World} {ρ : Nat → Nat} {m : Nat} {gc g : G} (h : Ren ρ m gc g) (ho : Bc ρ m gc g) {j : Nat} (hj : j < m) {K : Kind} (hl : K.lim m = true) :
  (K.ren ρ).holds (ρ j) w g ↔ K.holds j w gc := by
 have hO : ∀ ad n, mM (ρ j) w g ad n ↔ mM j w gc ad n := fun ad n => by simp only [mM, ho j hj]
 cases K with
 | row z xs => simp only [Kind.ren, Kind.holds, h.own j hj, h.wd j hj, h.top, hO]
 | wr z xs =>
  simp only [Kind.ren, Kind.holds, h.own j hj, h.wd j hj, h.top, hO, eB.ren, List.length_map, pP]
  have : ∀ vs, aG w g (gH ρ xs.flatten) vs ↔ aG w gc xs.flatten vs := fun vs => aG.ren h _ _ (fA hl)
  simp only [this, List.map_eq_nil_iff]
 | map ks vs =>
  simp only [Kind.lim, Bool.and_eq_true] at hl
  have h1 : ∀ us, aG w g (gH ρ ks) us ↔ aG w gc ks us := fun us => aG.ren h _ _ hl.1
  have h2 : ∀ us, aG w g (gH ρ vs) us ↔ aG w gc vs us := fun us => aG.ren h _ _ hl.2
  simp only [Kind.ren, Kind.holds, h.own j hj, h.top, ho j hj, h1, h2]
 | sem s =>
  simp only [Kind.ren, Kind.holds, h.own j hj, h.top, ho j hj]
theorem vI {g : G} {L : List Nat} {n : Nat} (hg : fH n L = true) : Bc (gz L n) L.length (handed g L) g := by
 intro j hj b
 have h1 := gA (n := n) hj
 simp only [handed]
 constructor
 · intro e; rw [e]; exact lY hg h1
 ·
  intro e
  cases ho : g.owner b with
  | none => simp [ho] at e
  | some i =>
   simp only [ho] at e
   have := pp e
   rw [h1] at this
   rw [Ke this]
theorem r6 {L : List Nat} {n n' j : Nat} (h : j < L.length) : gz L n j = gz L n' j := by
 have h1 := gA (n := n) h; have h2 := gA (n := n') h
 rw [h1] at h2; exact Ke h2
inductive KR (ρ : Nat → Nat) (m : Nat) : Kind → Kind → Prop
 | ren {K : Kind} (h : K.lim m = true) : KR ρ m K (K.ren ρ)
 | row {z : Nat} {xs : List (List AV)} : KR ρ m (.row z xs) (.row z xs)
 | wr {z : Nat} {xs : List (List AV)} (h : fo 0 xs = true) : KR ρ m (.wr z xs) (.wr z xs)
 | map {ks vs : List AV} (h1 : dT 0 ks = true) (h2 : dT 0 vs = true) : KR ρ m (.map ks vs) (.map ks vs)
mutual
theorem AV.lim_mono {m n : Nat} (h : m ≤ n) : ∀ x : AV, x.lim m = true → x.lim n = true
 | .ptr id _, hl => by simp only [AV.lim, Nat.blt_eq] at *; omega
 | .own id, hl => by simp only [AV.lim, Nat.blt_eq] at *; omega
 | .eptr id _ _, hl => by simp only [AV.lim, Nat.blt_eq] at *; omega
 | .via id _, hl => by simp only [AV.lim, Nat.blt_eq] at *; omega
 | .iface _ x, hl => by simp only [AV.lim] at *; exact AV.lim_mono h x hl
 | .fn _ cs, hl => by simp only [AV.lim] at *; exact cE h cs hl
 | .bfn _ cs, hl => by simp only [AV.lim] at *; exact cE h cs hl
 | .agg cs, hl => by simp only [AV.lim] at *; exact cE h cs hl
 | .tup cs, hl => by simp only [AV.lim] at *; exact cE h cs hl
 | .any, _ | .bool _, _ | .int _ _, _ | .str _, _ | .nilp, _ | .nilS, _ | .nilM, _ | .rd _, _ | .sl _, _ | .err _ _, _ | .nilI, _ | .nilF, _ | .raw _, _ => rfl
theorem cE {m n : Nat} (h : m ≤ n) : ∀ xs : List AV, dT m xs = true → dT n xs = true
 | [], _ => rfl
 | x :: xs, hl => by
  simp only [dT, Bool.and_eq_true] at *
  exact ⟨AV.lim_mono h x hl.1, cE h xs hl.2⟩
end
mutual
theorem AV.ren_closed {ρ : Nat → Nat} : ∀ x : AV, x.lim 0 = true → x.ren ρ = x
 | .ptr id _, hl => by simp [AV.lim] at hl
 | .own id, hl => by simp [AV.lim] at hl
 | .eptr id _ _, hl => by simp [AV.lim] at hl
 | .via id _, hl => by simp [AV.lim] at hl
 | .iface _ x, hl => by simp only [AV.lim] at hl; simp only [AV.ren, AV.ren_closed x hl]
 | .fn _ cs, hl => by simp only [AV.lim] at hl; simp only [AV.ren, d0 cs hl]
 | .bfn _ cs, hl => by simp only [AV.lim] at hl; simp only [AV.ren, d0 cs hl]
 | .agg cs, hl => by simp only [AV.lim] at hl; simp only [AV.ren, d0 cs hl]
 | .tup cs, hl => by simp only [AV.lim] at hl; simp only [AV.ren, d0 cs hl]
 | .any, _ | .bool _, _ | .int _ _, _ | .str _, _ | .nilp, _ | .nilS, _ | .nilM, _ | .rd _, _ | .sl _, _ | .err _ _, _ | .nilI, _ | .nilF, _ | .raw _, _ => rfl
theorem d0 {ρ : Nat → Nat} : ∀ xs : List AV, dT 0 xs = true → gH ρ xs = xs
 | [], _ => rfl
 | x :: xs, hl => by
  simp only [dT, Bool.and_eq_true] at hl
  simp only [gH, AV.ren_closed x hl.1, d0 xs hl.2]
end
theorem sf {m n : Nat} (h : m ≤ n) : ∀ xs : List (List AV), fo m xs = true → fo n xs = true
 | [], _ => rfl
 | x :: xs, hl => by
  simp only [fo, Bool.and_eq_true] at *
  exact ⟨cE h x hl.1, sf h xs hl.2⟩
theorem lU {ρ : Nat → Nat} : ∀ xs : List (List AV), fo 0 xs = true → xs.map (gH ρ) = xs
 | [], _ => rfl
 | x :: xs, hl => by
  simp only [fo, Bool.and_eq_true] at hl
  simp only [List.map_cons, d0 x hl.1, lU xs hl.2]
theorem KR.eq {ρ : Nat → Nat} {m : Nat} {K K' : Kind} (h : KR ρ m K K') : K.lim m = true ∧ K' = K.ren ρ := by
 cases h with
 | ren h => exact ⟨h, rfl⟩
 | row => exact ⟨rfl, rfl⟩
 | wr h => exact ⟨sf (Nat.zero_le _) _ h, by simp only [Kind.ren, lU _ h]⟩
 | map h1 h2 => exact ⟨by simp only [Kind.lim, cE (Nat.zero_le _) _ h1, cE (Nat.zero_le _) _ h2, Bool.and_self], by simp only [Kind.ren, d0 _ h1, d0 _ h2]⟩
def Ca (O : List (Nat × Kind)) (x y : AV) : Prop := x = y ∨ snap O x = y
def oy (σ : List (Nat × AV)) (O : List (Nat × Kind)) (L : List Nat) : List (Nat × AV) → Prop
 | [] => True
 | (t, v) :: r => (Ca O (lk σ t) (v.ren (gz L 0)) ∧ v.lim L.length = true) ∧ oy σ O L r
def ib (H : List (Nat × Nat × AV)) (O : List (Nat × Kind)) (L : List Nat) : List (Nat × Nat × AV) → Prop
 | [] => True
 | (i, o, v) :: r => ((∃ x, d3 H (gz L 0 i) o = some x ∧ Ca O x (v.ren (gz L 0))) ∧ v.lim L.length = true ∧ Nat.blt i L.length = true) ∧ ib H O L r
def iz (O : List (Nat × Kind)) (L : List Nat) : List (Nat × Kind) → Prop
 | [] => True
 | (i, K) :: r => ((∃ K', dk O (gz L 0 i) = some K' ∧ KR (gz L 0) L.length K K') ∧ Nat.blt i L.length = true) ∧ iz O L r
def cL : Nat → List Nat → Nat → Bool
 | 0, _, _ => true
 | _ + 1, [], _ => false
 | n + 1, x :: r, i => Nat.beq x i && cL n r (i + 1)
theorem jy : ∀ {n : Nat} {L : List Nat} {i : Nat}, cL n L i = true → ∀ j, j < n → L[j]? = some (i + j)
 | 0, _, _, _, j, h => by omega
 | n + 1, [], _, h, _, _ => by simp [cL] at h
 | n + 1, x :: r, i, h, 0, _ => by
  simp only [cL, Bool.and_eq_true, Nat.beq_eq] at h
  simp [h.1]
 | n + 1, x :: r, i, h, j + 1, hj => by
  simp only [cL, Bool.and_eq_true, Nat.beq_eq] at h
  have := jy h.2 j (by omega)
  simp only [List.getElem?_cons_succ, this]
  congr 1; omega
theorem yv {n : Nat} {L : List Nat} {i : Nat} (h : cL n L i = true) : n ≤ L.length := by
 refine Nat.le_of_not_lt fun hlt => ?_
 have := jy h L.length hlt
 simp at this
structure od (L : List Nat) (s s' : St) : Prop where
 g : fH s.n L = true
 n : s'.n = L.length
 σ : oy s.σ s.O L s'.σ
 H : ib s.H s.O L s'.H
 O : iz s.O L s'.O
theorem oy.lk {σ : List (Nat × AV)} {O : List (Nat × Kind)} {L : List Nat} : ∀ {σ' : List (Nat × AV)}, oy σ O L σ' → ∀ t, Go.Pv.lk σ' t = .any ∨ (Ca O (Go.Pv.lk σ t) ((Go.Pv.lk σ' t).ren (gz L 0)) ∧ (Go.Pv.lk σ' t).lim L.length = true)
 | [], _, _ => .inl rfl
 | (u, v) :: r, h, t => by
  simp only [Go.Pv.lk]
  by_cases hu : Nat.beq u t = true
  ·
   have : u = t := by simpa using hu
   subst this
   simp only [Nat.beq_refl, if_true]
   exact .inr h.1
  ·
   simp only [hu, if_false, Bool.false_eq_true]
   exact oy.lk h.2 t
theorem ib.lk {H : List (Nat × Nat × AV)} {O : List (Nat × Kind)} {L : List Nat} : ∀ {H' : List (Nat × Nat × AV)}, ib H O L H' → ∀ i o x, d3 H' i o = some x →
  (∃ y, d3 H (gz L 0 i) o = some y ∧ Ca O y (x.ren (gz L 0))) ∧ x.lim L.length = true ∧ i < L.length
 | [], _, _, _, _, e => by simp [d3] at e
 | (j, p, v) :: r, h, i, o, x, e => by
  simp only [d3] at e
  by_cases hu : (Nat.beq j i && Nat.beq p o) = true
  ·
   rw [if_pos hu] at e
   simp only [Bool.and_eq_true, Nat.beq_eq] at hu
   obtain ⟨rfl, rfl⟩ := hu
   obtain rfl := Ke e
   exact ⟨h.1.1, h.1.2.1, by simpa using h.1.2.2⟩
  ·
   rw [if_neg hu] at e
   exact ib.lk h.2 i o x e
theorem Ca.rep {w : World} {g : G} {O : List (Nat × Kind)} (hO : mL O w g) {x y : AV} {v : Value} (h : Ca O x y) (r : bU w g x v) : bU w g y v := by
 rcases h with rfl | rfl
 · exact r
 · exact kr hO r
theorem iz.lk {O : List (Nat × Kind)} {L : List Nat} : ∀ {O' : List (Nat × Kind)}, iz O L O' → ∀ i K, dk O' i = some K →
  dk O (gz L 0 i) = some (K.ren (gz L 0)) ∧ K.lim L.length = true ∧ i < L.length
 | [], _, _, _, e => by simp [dk] at e
 | (j, y) :: r, h, i, K, e => by
  simp only [dk] at e
  by_cases hu : Nat.beq j i = true
  ·
   rw [if_pos hu] at e
   simp only [Nat.beq_eq] at hu
   subst hu
   obtain rfl := Ke e
   obtain ⟨⟨K', h1, h2⟩, h3⟩ := h.1
   obtain ⟨h4, rfl⟩ := h2.eq
   exact ⟨h1, h4, by simpa using h3⟩
  ·
   rw [if_neg hu] at e
   exact iz.lk h.2 i K e
section
variable {P : Program} {N n0 : Nat} {Q : bY} {s s' : St} {w0 : World} {g0 : G} {a : Act} {w : World} {g : G} {ops : Array Oper} {o : Oper} {rest : List Oper} {L : List Nat}
theorem fV (hg : fH s.n L = true) : Ren (gz L 0) L.length (handed g L) g := by
 have h := z8 (g := g) hg
 refine ⟨fun j hj => ?_, fun j hj => ?_, fun j hj => ?_, h.top⟩
 · rw [r6 (n' := s.n) hj]; exact h.blk j hj
 · rw [r6 (n' := s.n) hj]; exact h.own j hj
 · rw [r6 (n' := s.n) hj]; exact h.wd j hj
theorem uD (hg : fH s.n L = true) : Bc (gz L 0) L.length (handed g L) g := by
 intro j hj b
 rw [r6 (n' := s.n) hj]; exact vI hg j hj b
theorem nW.handed {H H' : List (Nat × Nat × AV)} {O : List (Nat × Kind)} (h : nW H w g) (ho : mL O w g) (hg : fH s.n L = true) (hs : ib H O L H') : nW H' w (handed g L) := by
 intro i o x hx
 obtain ⟨⟨y, h1, h1'⟩, h2, h3⟩ := hs.lk i o x hx
 obtain ⟨b, c, e, hb, hw, v, hv, r⟩ := h _ o _ h1
 exact ⟨b, c, e, by rw [← (fV (s := s) (g := g) hg).blk i h3]; exact hb, hw, v, hv, (bU.ren (fV (s := s) hg) x v h2).1 (h1'.rep ho r)⟩
theorem mL.handed {O O' : List (Nat × Kind)} (h : mL O w g) (hg : fH s.n L = true) (hs : iz O L O') : mL O' w (handed g L) := by
 intro i K hx
 obtain ⟨h1, h2, h3⟩ := hs.lk i K hx
 exact (Kind.ren_iff (fV (s := s) hg) (uD (s := s) hg) h3 h2).1 (h.at h1)
theorem dh.ren (h : dh N n0 w0 g0 s a w g) (hs : od L s s') (hk : cL n0 L 0 = true) : dh N n0 w0 g0 s' a w (handed g L) where
 defers := h.defers
 size := h.size
 slots t := by
  rcases hs.σ.lk t with e | ⟨e, hl⟩
  · rw [e]; trivial
  · exact (bU.ren (fV (s := s) hs.g) _ _ hl).1 (e.rep h.owns (h.slots t))
 cells := h.cells.handed h.owns hs.g hs.H
 owns := h.owns.handed hs.g hs.O
 wf := by rw [hs.n]; exact qF hs.g h.wf
 frame := {
  os := h.frame.os
  tape := h.frame.tape
  output := h.frame.output
  size := h.frame.size
  block := h.frame.block
  foreign := fun b hb ho => by
   obtain ⟨k1, k2⟩ := h.frame.foreign b hb ho
   exact ⟨by simp [Go.Pv.handed, k1], k2⟩
  top := h.frame.top
  stable := h.frame.stable
  blk := fun id hi => by
   have := jy hk id hi
   simp only [Go.Pv.handed, this, Nat.zero_add]; exact h.frame.blk id hi
  own := fun id hi => by
   have := jy hk id hi
   simp only [Go.Pv.handed, this, Nat.zero_add]; exact h.frame.own id hi
  wd := fun id hi => by
   have := jy hk id hi
   simp only [Go.Pv.handed, this, Nat.zero_add]; exact h.frame.wd id hi }
 nle := by rw [hs.n]; exact yv hk
 laid := h.laid
theorem Bg {c : Code} (hs : od L s s') (hk : cL n0 L 0 = true) (h : cg P N n0 c Q s') : cg P N n0 c Q s :=
 fun w0 g0 a w _ hi => h w0 g0 a w _ (hi.ren hs hk)
open Classical in
theorem vv {c : Code} {ι : Type} (inv : ι → St) (fH : ι → Prop) (μ : ι → Nat) (i0 : ι) (h0 : fH i0) (hs : ∃ L, cL n0 L 0 = true ∧ od L s (inv i0))
  (round : ∀ i, fH i → cg P N n0 c (bY.then (fun s' => ∃ j, fH j ∧ μ j < μ i ∧ ∃ L, cL n0 L 0 = true ∧ od L s' (inv j)) Q) (inv i)) : cg P N n0 (.loop c) Q s := by
 intro w0 g0 a w g hi
 let I : Act → World → Nat → Prop := fun a w m => ∃ i g, fH i ∧ μ i = m ∧ dh N n0 w0 g0 (inv i) a w g
 obtain ⟨L, hk, hs⟩ := hs
 refine wp_loop (fun a w => ∃ m, I a w m) (fun a w => if h : ∃ m, I a w m then Classical.choose (jt h) else 0) ⟨_, i0, _, h0, rfl, hi.ren hs hk⟩ ?_
 intro a w hI
 obtain ⟨⟨i, g, hg, hm, hinv⟩, hleast⟩ := Classical.choose_spec (jt hI)
 refine wp_mono (round i hg w0 g0 a w g hinv) ?_
 rintro e a' w' ⟨s', g', hq, hi'⟩
 cases e with
 | normal =>
  obtain ⟨j, hj, hlt, L, hk, hsub⟩ := hq
  have hI' : ∃ m, I a' w' m := ⟨_, j, _, hj, rfl, hi'.ren hsub hk⟩
  refine ⟨hI', ?_⟩
  rw [dif_pos hI, dif_pos hI']
  have := (Classical.choose_spec (jt hI')).2 (μ j) ⟨j, _, hj, rfl, hi'.ren hsub hk⟩
  omega
 | _ => exact ⟨s', g', hq, hi'⟩
def aP (P : Program) (f : FuncId) (m : Nat) (args : List AV) (H : List (Nat × Nat × AV)) (O : List (Nat × Kind)) (K : AV → List (Nat × Nat × AV) → List (Nat × Kind) → Nat → Prop) : Prop :=
 vC P f = true ∧ ∀ w g vals, WF g w m → g8 w g → aG w g args vals → nW H w g → mL O w g →
  Calls P f vals.toArray w fun e w' => ∃ v r H' O' n' g', e = .returned v ∧ K r H' O' n' ∧ bU w' g' r v ∧ nW H' w' g' ∧ mL O' w' g' ∧ WF g' w' n' ∧ m ≤ n' ∧ gx w g m w' g'
theorem aP.mono {f : FuncId} {m : Nat} {args : List AV} {H : List (Nat × Nat × AV)} {O : List (Nat × Kind)} {K K' : AV → List (Nat × Nat × AV) → List (Nat × Kind) → Nat → Prop}
  (h : aP P f m args H O K) (hk : ∀ r H O n, K r H O n → K' r H O n) : aP P f m args H O K' :=
 ⟨h.1, fun w g vals a l b c d => (h.2 w g vals a l b c d).mono fun e w' ⟨v, r, H', O', n', g', h1, h2, h3⟩ => ⟨v, r, H', O', n', g', h1, hk _ _ _ _ h2, h3⟩⟩
def yS (ρ : Nat → Nat) (H : List (Nat × Nat × AV)) : List (Nat × Nat × AV) := H.map fun e => (ρ e.1, e.2.1, e.2.2.ren ρ)
def yE (ρ : Nat → Nat) (O : List (Nat × Kind)) : List (Nat × Kind) := O.map fun e => (ρ e.1, e.2.ren ρ)
def kx (L : List Nat) : List (Nat × Nat × AV) → List (Nat × Nat × AV)
 | [] => []
 | e :: r => if (ej L e.1).isNone then e :: kx L r else kx L r
def cd (L : List Nat) : List (Nat × Kind) → List (Nat × Kind)
 | [] => []
 | e :: r => if (ej L e.1).isNone then e :: cd L r else cd L r
theorem Af {A B : List (Nat × Nat × AV)} {i o : Nat} {x : AV} (h : d3 (A ++ B) i o = some x) : d3 A i o = some x ∨ d3 B i o = some x := by
 induction A with
 | nil => exact .inr h
 | cons e A ih =>
  obtain ⟨j, p, v⟩ := e
  simp only [List.cons_append, d3] at h ⊢
  split at h
  · rename_i hc; rw [if_pos hc]; exact .inl h
  · rename_i hc; rw [if_neg hc]; exact ih h
theorem sy {A B : List (Nat × Kind)} {i : Nat} {x : Kind} (h : dk (A ++ B) i = some x) : dk A i = some x ∨ dk B i = some x := by
 induction A with
 | nil => exact .inr h
 | cons e A ih =>
  obtain ⟨j, v⟩ := e
  simp only [List.cons_append, dk] at h ⊢
  split at h
  · rename_i hc; rw [if_pos hc]; exact .inl h
  · rename_i hc; rw [if_neg hc]; exact ih h
theorem lS {i o : Nat} {x : AV} : ∀ {H : List (Nat × Nat × AV)}, d3 (kx L H) i o = some x → d3 H i o = some x ∧ ej L i = none
 | [], h => by simp [kx, d3] at h
 | (j, p, v) :: r, h => by
  simp only [kx] at h
  by_cases hi : (ej L j).isNone = true
  ·
   rw [if_pos hi] at h
   simp only [d3] at h ⊢
   split at h
   ·
    rename_i hc
    rw [if_pos hc]
    simp only [Bool.and_eq_true, Nat.beq_eq] at hc
    refine ⟨h, ?_⟩
    rw [← hc.1]; simpa using hi
   · rename_i hc; rw [if_neg hc]; exact lS h
  ·
   rw [if_neg hi] at h
   have := lS h
   refine ⟨?_, this.2⟩
   simp only [d3]
   rw [if_neg]
   · exact this.1
   ·
    intro hc
    simp only [Bool.and_eq_true, Nat.beq_eq] at hc
    rw [hc.1, this.2] at hi
    simp at hi
theorem iK {i : Nat} {x : Kind} : ∀ {O : List (Nat × Kind)}, dk (cd L O) i = some x → dk O i = some x ∧ ej L i = none
 | [], h => by simp [cd, dk] at h
 | (j, v) :: r, h => by
  simp only [cd] at h
  by_cases hi : (ej L j).isNone = true
  ·
   rw [if_pos hi] at h
   simp only [dk] at h ⊢
   split at h
   ·
    rename_i hc
    rw [if_pos hc]
    simp only [Nat.beq_eq] at hc
    refine ⟨h, ?_⟩
    rw [← hc]; simpa using hi
   · rename_i hc; rw [if_neg hc]; exact iK h
  ·
   rw [if_neg hi] at h
   have := iK h
   refine ⟨?_, this.2⟩
   simp only [dk]
   rw [if_neg]
   · exact this.1
   ·
    intro hc
    simp only [Nat.beq_eq] at hc
    rw [hc, this.2] at hi
    simp at hi
theorem xl {ρ : Nat → Nat} {i o : Nat} {x : AV} : ∀ {H : List (Nat × Nat × AV)}, d3 (yS ρ H) i o = some x → ∃ j y, (j, o, y) ∈ H ∧ ρ j = i ∧ x = y.ren ρ ∧ (∀ (hinj : ∀ k, ρ k = ρ j → k = j), d3 H j o = some y)
 | [], h => by simp [yS, d3] at h
 | (j, p, v) :: r, h => by
  simp only [yS, List.map_cons, d3] at h
  split at h
  ·
   rename_i hc
   simp only [Bool.and_eq_true, Nat.beq_eq] at hc
   obtain ⟨h1, rfl⟩ := hc
   obtain rfl := Ke h
   exact ⟨j, v, by simp, h1, rfl, fun _ => by simp [d3]⟩
  ·
   rename_i hc
   obtain ⟨k, y, h1, h2, h3, h4⟩ := xl (H := r) h
   refine ⟨k, y, by simp [h1], h2, h3, fun hinj => ?_⟩
   simp only [d3]
   rw [if_neg]
   · exact h4 hinj
   ·
    intro hc'
    apply hc
    simp only [Bool.and_eq_true, Nat.beq_eq] at hc' ⊢
    exact ⟨by rw [hc'.1, h2], hc'.2⟩
theorem yd {ρ : Nat → Nat} {i : Nat} {x : Kind} : ∀ {O : List (Nat × Kind)}, dk (yE ρ O) i = some x → ∃ j y, ρ j = i ∧ x = y.ren ρ ∧ (∀ (hinj : ∀ k, ρ k = ρ j → k = j), dk O j = some y)
 | [], h => by simp [yE, dk] at h
 | (j, v) :: r, h => by
  simp only [yE, List.map_cons, dk] at h
  split at h
  ·
   rename_i hc
   simp only [Nat.beq_eq] at hc
   obtain rfl := Ke h
   exact ⟨j, v, hc, rfl, fun _ => by simp [dk]⟩
  ·
   rename_i hc
   obtain ⟨k, y, h2, h3, h4⟩ := yd (O := r) h
   refine ⟨k, y, h2, h3, fun hinj => ?_⟩
   simp only [dk]
   rw [if_neg]
   · exact h4 hinj
   ·
    intro hc'
    apply hc
    simp only [Nat.beq_eq] at hc' ⊢
    rw [hc', h2]
end
end Go.Pv
namespace Go.Pv
open Go.RowKit (Below)
set_option linter.unusedSimpArgs false
set_option linter.unusedSectionVars false
set_option linter.unusedVariables false
section
variable {w : World} {g : G} {n : Nat}
mutual
theorem bU.lims (h : WF g w n) : ∀ (x : AV) (v : Value), bU w g x v → x.lim n = true
 | .ptr id _, _, ⟨b, hb, _⟩ => by simp only [AV.lim, Nat.blt_eq]; exact (h.blkOwner id b hb).2.2.2
 | .own id, v, r => by simp only [AV.lim, Nat.blt_eq]; exact h.ownLt id v r
 | .eptr id _ _, _, ⟨ad, l, c, e, _⟩ => by simp only [AV.lim, Nat.blt_eq]; exact h.ownLt id _ e
 | .via id _, _, ⟨u, e, _⟩ => by simp only [AV.lim, Nat.blt_eq]; exact h.ownLt id _ e
 | .iface _ x, _, ⟨y, _, r⟩ => by simp only [AV.lim]; exact bU.lims h x y r
 | .fn _ cs, _, ⟨vs, _, r⟩ => by simp only [AV.lim]; exact aG.lims h cs vs r
 | .bfn _ cs, _, ⟨vs, _, r⟩ => by simp only [AV.lim]; exact aG.lims h cs vs r
 | .agg cs, _, ⟨vs, _, r⟩ => by simp only [AV.lim]; exact aG.lims h cs vs r
 | .tup cs, _, ⟨vs, _, r⟩ => by simp only [AV.lim]; exact aG.lims h cs vs r
 | .any, _, _ | .bool _, _, _ | .int _ _, _, _ | .str _, _, _ | .nilp, _, _ | .nilS, _, _ | .nilM, _, _ | .rd _, _, _ | .sl _, _, _ | .err _ _, _, _ | .nilI, _, _ | .nilF, _, _ | .raw _, _, _ => rfl
theorem aG.lims (h : WF g w n) : ∀ (xs : List AV) (vs : List Value), aG w g xs vs → dT n xs = true
 | [], _, _ => rfl
 | x :: xs, _, ⟨v, vs', _, r, rest⟩ => by simp only [dT, bU.lims h x v r, aG.lims h xs vs' rest, Bool.and_self]
end
theorem lQ : ∀ {xs : List (List AV)}, dT n xs.flatten = true → fo n xs = true
 | [], _ => rfl
 | x :: xs, h => by
  simp only [List.flatten_cons, jh, Bool.and_eq_true] at h
  simp only [fo, h.1, lQ h.2, Bool.and_self]
theorem Kind.lims (h : WF g w n) {id : Nat} {K : Kind} (hk : K.holds id w g) : K.lim n = true := by
 cases K with
 | row z xs => rfl
 | wr z xs =>
  obtain ⟨_, _, a, cap, _, h3, h4, h5⟩ := hk
  cases a with
  | none => rw [(h4 rfl).1]; rfl
  | some ad =>
   obtain ⟨_, _, vs, r, _⟩ := h5 ad rfl
   exact lQ (aG.lims h _ _ r)
 | map ks vs =>
  obtain ⟨b, es, clock, _, _, _, _, _, l, _, h1, h2⟩ := hk
  simp only [Kind.lim, aG.lims h _ _ h1, aG.lims h _ _ h2, Bool.and_self]
 | sem s => rfl
end
section
variable {P : Program} {N n0 : Nat} {Q : bY} {s s' : St} {w0 : World} {g0 : G} {a : Act} {w : World} {g : G} {ops : Array Oper} {o : Oper} {rest : List Oper} {L : List Nat}
theorem y7 {gc : G} {w' : World} {n n' : Nat} (hg : fH n L = true) (hw : WF g w n) (hwc : WF gc w' n') (hf : gx w (handed g L) L.length w' gc) (hn : L.length ≤ n') :
  Bc (gz L n) n' gc (ft g gc L n) := by
 intro j hj b
 have hm : ∀ i, g.owner b = some i → (ej L i).isSome = false → ∀ j, i ≠ gz L n j ∨ ¬ j < L.length := by
  intro i hi hx j
  by_cases h : j < L.length
  ·
   left
   intro e
   have := lY hg (gA (n := n) h)
   rw [← e] at this
   simp [this] at hx
  · exact .inr h
 simp only [ft]
 cases hc : gc.owner b with
 | some k =>
  simp only [Option.some.injEq]
  exact ⟨fun e => Ay hg e, fun e => by rw [e]⟩
 | none =>
  simp only [reduceCtorEq, iff_false]
  cases ho : g.owner b with
  | none => simp
  | some i =>
   simp only
   cases hx : (ej L i).isSome with
   | true => simp
   | false =>
    simp only [Bool.false_eq_true, if_false, Option.some.injEq]
    intro e
    rcases hm i ho hx j with h | h
    · exact h e
    ·
     rw [k9 (by omega)] at e
     have := hw.idLt b i ho
     omega
def Gz (s : St) (L : List Nat) (x : Operand) : AV := snap (cd L s.O) (ev s.σ x)
theorem mL.drop {O : List (Nat × Kind)} (h : mL O w g) : mL (cd L O) w g := fun _ _ hx => h.at (iK hx).1
theorem qj (hi : dh N n0 w0 g0 s a w g) : ∀ l : List Operand, aG w g (l.map (Gz s L)) (l.map a.eval)
 | [] => rfl
 | x :: l => ⟨_, _, rfl, kr hi.owns.drop (bA hi.slots x), qj hi l⟩
theorem dh.acalled (hi : dh N n0 w0 g0 s a w g) (hg : fH s.n L = true) {w' : World} {gc : G} {H' : List (Nat × Nat × AV)} {O' : List (Nat × Kind)} {n' : Nat}
  (hH : nW H' w' gc) (hO : mL O' w' gc) (hwc : WF gc w' n') (hn : L.length ≤ n') (hf : gx w (handed g L) L.length w' gc) :
  dh N n0 w0 g0 ⟨s.σ, yS (gz L s.n) H' ++ kx L s.H, yE (gz L s.n) O' ++ cd L s.O, s.n + (n' - L.length)⟩ a w' (ft g gc L s.n) := by
 have hm := BL hg hi.wf hwc hf hn
 have hR := tH hg hi.wf hwc hf hn
 have hOw := y7 hg hi.wf hwc hf hn
 have hinj : ∀ j k, gz L s.n k = gz L s.n j → k = j := fun j k e => Ay hg e
 exact {
  defers := hi.defers
  size := hi.size
  slots := fun t => (hi.slots t).mono _ _ hm
  cells := fun i p x hx => by
   rcases Af hx with hx | hx
   ·
    obtain ⟨j, y, _, rfl, rfl, hy⟩ := xl hx
    obtain ⟨b, c, e, hb, hw, v, hv, r⟩ := hH j p y (hy (hinj j))
    have hj := (hwc.blkOwner j b hb).2.2.2
    exact ⟨b, c, e, by rw [hR.blk j hj]; exact hb, hw, v, hv, (bU.ren hR y v (bU.lims hwc y v r)).2 r⟩
   ·
    obtain ⟨hx, hi'⟩ := lS hx
    obtain ⟨b, c, e, hb, hw, v, hv, r⟩ := hi.cells i p x hx
    obtain ⟨k1, k2, _, k4⟩ := hi.wf.blkOwner i b hb
    obtain ⟨_, _, q3, _⟩ := ln hg hi.wf hwc hf hn k1 hi' k2
    exact ⟨b, c, e, hm.blk _ _ hb, by rw [q3]; exact hw, v, hv, r.mono _ _ hm⟩
  owns := fun i K hx => by
   rcases sy hx with hx | hx
   ·
    obtain ⟨j, y, rfl, rfl, hy⟩ := yd hx
    have hk := hO.at (hy (hinj j))
    obtain ⟨v, hv⟩ := Kind.own_some hk
    exact (Kind.ren_iff hR hOw (hwc.ownLt j v hv) (Kind.lims hwc hk)).2 hk
   ·
    obtain ⟨hx, hi'⟩ := iK hx
    have hk := hi.owns.at hx
    obtain ⟨v, hv⟩ := Kind.own_some hk
    have hlt := hi.wf.ownLt i v hv
    refine Kind.keep hk ⟨hm, fun b hb => ?_, fun b hb => ?_⟩
    ·
     obtain ⟨q1, q2, q3, q4⟩ := ln hg hi.wf hwc hf hn hb hi' (hi.wf.ownerLt hb)
     exact ⟨q3, q4, q2⟩
    ·
     simp only [ft] at hb
     cases hc : gc.owner b with
     | some j =>
      simp only [hc, Option.some.injEq] at hb
      exfalso
      by_cases hj : j < L.length
      ·
       have := lY hg (gA (n := s.n) hj)
       rw [hb, hi'] at this; cases this
      · rw [k9 (by omega)] at hb; omega
     | none =>
      simp only [hc] at hb
      cases ho : g.owner b with
      | none => simp [ho] at hb
      | some j =>
       simp only [ho] at hb
       split at hb
       · cases hb
       · exact hb
  wf := Fx hg hi.wf hwc hf hn
  frame := ze hg hi.wf hwc hf hn hi.frame hi.nle
  nle := Nat.le_trans hi.nle (Nat.le_add_right _ _)
  laid := hi.laid }
theorem zG (L : List Nat) {fop : Operand} {args : Array Operand} {ats : Array TypeId} {f : FuncId} {caps cargs : List AV} {Hc : List (Nat × Nat × AV)} {Oc : List (Nat × Kind)}
  {K : AV → List (Nat × Nat × AV) → List (Nat × Kind) → Nat → Prop} (hgd : o.guard = none) (hop : o.op = .call ⟨.value fop, args, ats⟩) (hd : uw N o.dst = true) (hf : ev s.σ fop = .fn f caps)
  (hL : fH s.n L = true) (ha : args.toList.map (Gz s L) ++ caps = gH (gz L 0) cargs) (hal : dT L.length cargs = true) (hH : ib s.H s.O L Hc) (hO : iz s.O L Oc)
  (call : aP P f L.length cargs Hc Oc K)
  (k : ∀ r H' O' n', K r H' O' n' → aM P N n0 ops rest Q (St.put ⟨s.σ, yS (gz L s.n) H' ++ kx L s.H, yE (gz L s.n) O' ++ cd L s.O, s.n + (n' - L.length)⟩ o.dst (r.ren (gz L s.n)))) :
  aM P N n0 ops (o :: rest) Q s := by
 intro w0 g0 a w g hi
 have hfr := bA hi.slots fop
 rw [hf] at hfr
 obtain ⟨cs, hfe, hcs⟩ := hfr
 have hargs : aG w g (args.toList.map (Gz s L) ++ caps) (args.toList.map a.eval ++ cs) := aG.append (qj hi args.toList) hcs
 rw [ha] at hargs
 have hargs' := (aG.ren (fV (s := s) hL) _ _ hal).1 hargs
 have hcall := call.2 w (handed g L) _ (qF hL hi.wf) (hi.laidNow.owner fun b hb => by simp [handed, hb]) hargs' (hi.cells.handed hi.owns hL hH) (hi.owns.handed hL hO)
 refine hZ hgd ?_
 obtain ⟨dst, op, type, pos, after, guard⟩ := o
 subst hop
 have hrun : (execOp a.eval ⟨dst, .call ⟨.value fop, args, ats⟩, type, pos, after, guard⟩).run P w = .ok (.enter f (args.toList.map a.eval ++ cs).toArray) w := by
  have : (args.map a.eval ++ cs.toArray) = (args.toList.map a.eval ++ cs).toArray := by
   rw [map_toArray]; simp
  simp only [execOp, resolve, hfe, Deferred.ofValue, Sem.run_bind, Sem.run_pure, Result.andThen_ok, invoke]
  rw [show (#[] ++ args.map a.eval) = args.map a.eval by simp, this]
  exact ep call.1 _ w
 simp only [Oper.wp, hrun, Oper.upon]
 refine hcall.mono ?_
 rintro e w' ⟨v, r, H', O', n', gc, rfl, hK, hr, hH', hO', hwc, hn, hfm⟩
 have hi' := hi.acalled hL hH' hO' hwc hn hfm
 have hr' : bU w' (ft g gc L s.n) (r.ren (gz L s.n)) v := (bU.ren (tH hL hi.wf hwc hfm hn) r v (bU.lims hwc r v hr)).2 hr
 exact k r H' O' n' hK w0 g0 _ w' _ (hi'.put hr' hd)
theorem yG (L : List Nat) {fop : Operand} {args : Array Operand} {ats : Array TypeId} {f : FuncId} {caps cargs : List AV} {Hc : List (Nat × Nat × AV)} {Oc : List (Nat × Kind)}
  {K : AV → List (Nat × Nat × AV) → List (Nat × Kind) → Nat → Prop} (hgd : o.guard = none) (hop : o.op = .call ⟨.value fop, args, ats⟩) (hd : uw N o.dst = true) (hf : ev s.σ fop = .bfn f caps)
  (hL : fH s.n L = true) (ha : caps ++ args.toList.map (Gz s L) = gH (gz L 0) cargs) (hal : dT L.length cargs = true) (hH : ib s.H s.O L Hc) (hO : iz s.O L Oc)
  (call : aP P f L.length cargs Hc Oc K)
  (k : ∀ r H' O' n', K r H' O' n' → aM P N n0 ops rest Q (St.put ⟨s.σ, yS (gz L s.n) H' ++ kx L s.H, yE (gz L s.n) O' ++ cd L s.O, s.n + (n' - L.length)⟩ o.dst (r.ren (gz L s.n)))) :
  aM P N n0 ops (o :: rest) Q s := by
 intro w0 g0 a w g hi
 have hfr := bA hi.slots fop
 rw [hf] at hfr
 obtain ⟨cs, hfe, hcs⟩ := hfr
 have hargs : aG w g (caps ++ args.toList.map (Gz s L)) (cs ++ args.toList.map a.eval) := aG.append hcs (qj hi args.toList)
 rw [ha] at hargs
 have hargs' := (aG.ren (fV (s := s) hL) _ _ hal).1 hargs
 have hcall := call.2 w (handed g L) _ (qF hL hi.wf) (hi.laidNow.owner fun b hb => by simp [handed, hb]) hargs' (hi.cells.handed hi.owns hL hH) (hi.owns.handed hL hO)
 refine hZ hgd ?_
 obtain ⟨dst, op, type, pos, after, guard⟩ := o
 subst hop
 have hrun : (execOp a.eval ⟨dst, .call ⟨.value fop, args, ats⟩, type, pos, after, guard⟩).run P w = .ok (.enter f (cs ++ args.toList.map a.eval).toArray) w := by
  have : (cs.toArray ++ args.map a.eval ++ #[]) = (cs ++ args.toList.map a.eval).toArray := by
   rw [map_toArray]; simp
  simp only [execOp, resolve, hfe, Deferred.ofValue, Sem.run_bind, Sem.run_pure, Result.andThen_ok, invoke]
  rw [this]
  exact ep call.1 _ w
 simp only [Oper.wp, hrun, Oper.upon]
 refine hcall.mono ?_
 rintro e w' ⟨v, r, H', O', n', gc, rfl, hK, hr, hH', hO', hwc, hn, hfm⟩
 have hi' := hi.acalled hL hH' hO' hwc hn hfm
 have hr' : bU w' (ft g gc L s.n) (r.ren (gz L s.n)) v := (bU.ren (tH hL hi.wf hwc hfm hn) r v (bU.lims hwc r v hr)).2 hr
 exact k r H' O' n' hK w0 g0 _ w' _ (hi'.put hr' hd)
def A1 (P : Program) [dI P] (s : St) : ResultVar → Option AV
 | .tmp t => some (lk s.σ t)
 | .cell c t => match ti P t with
  | some i => q8 s.H i (lk s.σ c)
  | none => none
def vc (P : Program) [dI P] (s : St) : List ResultVar → Option (List AV)
 | [] => some []
 | x :: r => match A1 P s x, vc P s r with
  | some y, some ys => some (y :: ys)
  | _, _ => none
def EP (P : Program) [dI P] (s : St) (rs : List ResultVar) : Option AV :=
 match vc P s rs with
 | some [x] => some x
 | some xs => some (.tup xs)
 | none => none
theorem yq [dI P] (hi : dh N n0 w0 g0 s a w g) {x : ResultVar} {y : AV} (h : A1 P s x = some y) :
  ∃ v, (yk a.tmps x).run P w = .ok v w ∧ bU w g y v := by
 cases x with
 | tmp t =>
  obtain rfl := Ke h
  exact ⟨_, rfl, hi.slots t⟩
 | cell c t =>
  simp only [A1] at h
  cases ht : ti P t with
  | none => simp [ht] at h
  | some i =>
   simp only [ht] at h
   obtain ⟨inf, d, zz, h1⟩ := aV ht
   obtain ⟨u, hu, hr⟩ := nA h1 hi.cells (hi.slots c) h
   refine ⟨u, ?_, hr⟩
   have hptr : ∃ ad, a.tmps.getD c undef = .pointer (some ad) := by
    have hs := hi.slots c
    cases hx : lk s.σ c <;> rw [hx] at h hs <;> simp only [q8] at h <;> first | (cases h; done) | skip
    · obtain ⟨b, _, e⟩ := hs; exact ⟨_, e⟩
    · obtain ⟨b, o, e, _⟩ := hs; exact ⟨_, e⟩
   obtain ⟨ad, had⟩ := hptr
   rw [had] at hu
   simp only [yk, had]
   simpa [Instr.loadAt, Instr.sureAddr, asAddr] using hu
theorem qN [dI P] (hi : dh N n0 w0 g0 s a w g) : ∀ {rs : List ResultVar} {ys : List AV}, vc P s rs = some ys →
  ∃ vs, (rs.mapM (yk a.tmps)).run P w = .ok vs w ∧ aG w g ys vs
 | [], ys, h => by
  obtain rfl := Ke h
  exact ⟨[], rfl, rfl⟩
 | x :: rs, ys, h => by
  simp only [vc] at h
  cases h1 : A1 P s x with
  | none => simp [h1] at h
  | some y =>
   cases h2 : vc P s rs with
   | none => simp [h1, h2] at h
   | some ys' =>
    simp only [h1, h2] at h
    obtain rfl := Ke h
    obtain ⟨v, hv, hr⟩ := yq hi h1
    obtain ⟨vs, hvs, hrs⟩ := qN hi h2
    refine ⟨v :: vs, ?_, v, vs, rfl, hr, hrs⟩
    simp only [List.mapM_cons, Sem.run_bind, hv, Result.andThen_ok, hvs, Sem.run_pure]
theorem zf [dI P] (hi : dh N n0 w0 g0 s a w g) {fn : Func} {r : AV} (h : EP P s fn.results.toList = some r) :
  ∃ v, (results fn a.tmps).run P w = .ok v w ∧ bU w g r v := by
 unfold EP at h
 cases hl : vc P s fn.results.toList with
 | none => simp [hl] at h
 | some ys =>
  simp only [hl] at h
  obtain ⟨vs, hvs, hrs⟩ := qN hi hl
  have hrun : (results fn a.tmps).run P w = .ok (if hh : vs.toArray.size = 1 then vs.toArray[0] else .tuple vs.toArray) w := by
   simp only [sX, Array.mapM_eq_mapM_toList, Sem.run_bind, Sem.run_map, hvs, Result.andThen_ok, Sem.run_pure]
  have hlen := hrs.length
  split at h
  ·
   rename_i x hx
   obtain rfl := Ke hx
   obtain rfl := Ke h
   obtain ⟨v, _, rfl, hv, rfl⟩ := hrs
   exact ⟨v, by rw [hrun]; simp, hv⟩
  ·
   rename_i xs hne hx
   obtain rfl := Ke hx
   obtain rfl := Ke h
   refine ⟨.tuple vs.toArray, ?_, vs, rfl, hrs⟩
   rw [hrun]
   have : vs.toArray.size ≠ 1 := by
    intro e
    have e1 : ys.length = 1 := by rw [← hlen]; simpa using e
    obtain ⟨x, rfl⟩ := List.length_eq_one_iff.1 e1
    exact hne x rfl
   rw [dif_neg this]
  · cases h
def lH (P : Program) [dI P] (m : Nat) (rs : List ResultVar) (K : AV → List (Nat × Nat × AV) → List (Nat × Kind) → Nat → Prop) : bY
 | .normal, s | .ret, s => ∃ r L s', (tQ P s rs = some (r.ren (gz L 0)) ∨ EP P s rs = some (r.ren (gz L 0))) ∧ r.lim L.length = true ∧ cL m L 0 = true ∧ od L s s' ∧ K r s'.H s'.O s'.n
 | _, _ => False
theorem zo [dI P] {f : FuncId} {fn : Func} {c : Code} {m : Nat} {args : List AV} {H : List (Nat × Nat × AV)} {O : List (Nat × Kind)} {K : AV → List (Nat × Nat × AV) → List (Nat × Kind) → Nat → Prop}
  (hf : P.funcs[f]? = some fn) (hb : fn.body = some c) (hn : (fn.name == "runtime.NumGoroutine") = false)
  (hl : Nat.ble args.length fn.ntmps = true) (h : cg P fn.ntmps m c (lH P m fn.results.toList K) ⟨kV 0 args, H, O, m⟩) : aP P f m args H O K := by
 refine ⟨by simp [vC, hf, hb, hn], fun w g vals hwf hlay hr hH hO => ?_⟩
 have hlen := hr.length
 have hle : args.length ≤ fn.ntmps := by simpa using hl
 refine calls_of_wp hf hb (wp_mono (h w g _ w g ?_) ?_)
 · exact {
   defers := rfl
   size := by simp [hlen]; omega
   slots := fun t => by
    rw [pa]
    simp only [Nat.zero_le, if_true, Nat.sub_zero]
    cases hx : args[t]? with
    | none => trivial
    | some x =>
     obtain ⟨v, hv, rv⟩ := hr.get hx
     have hlt : t < vals.length := (List.getElem?_eq_some_iff.1 hv).1
     simp only [Option.getD_some]
     rw [Array.getD_eq_getD_getElem?, Array.getElem?_append_left (by simpa using hlt)]
     simpa [hv] using rv
   cells := hH
   owns := hO
   wf := hwf
   frame := gx.refl _ _ _
   nle := Nat.le_refl _
   laid := hlay }
 ·
  rintro e a' w' ⟨s₁, g', hq, hi⟩
  have key : (∃ r L s', (tQ P s₁ fn.results.toList = some (r.ren (gz L 0)) ∨ EP P s₁ fn.results.toList = some (r.ren (gz L 0))) ∧ r.lim L.length = true ∧ cL m L 0 = true ∧ od L s₁ s' ∧ K r s'.H s'.O s'.n) →
    a'.defers = [] ∧ ∃ v, (results fn a'.tmps).run P w' = .ok v w' ∧
    ∃ v' r H' O' n' g', Ending.returned v = .returned v' ∧ K r H' O' n' ∧ bU w' g' r v' ∧ nW H' w' g' ∧ mL O' w' g' ∧ WF g' w' n' ∧ m ≤ n' ∧ gx w g m w' g' := by
   rintro ⟨r, L, s', h1, h2, h3, h4, h5⟩
   have hv : ∃ v, (results fn a'.tmps).run P w' = .ok v w' ∧ bU w' g' (r.ren (gz L 0)) v := by
    rcases h1 with h1 | h1
    · exact tw hi h1
    · exact zf hi h1
   obtain ⟨v, hv, rv⟩ := hv
   have hi' := hi.ren h4 h3
   exact ⟨hi.defers, v, hv, v, r, s'.H, s'.O, s'.n, handed g' L, rfl, h5, (bU.ren (fV (s := s₁) h4.g) r v h2).1 rv, hi'.cells, hi'.owns, hi'.wf, hi'.nle, hi'.frame⟩
  cases e <;> first | exact hq.elim | exact key hq
end
section
variable {P : Program} [dI P] {N n0 : Nat} {Q : bY} {ops : Array Oper} {rest : List Oper} {σ : List (Nat × AV)} {H A : List (Nat × Nat × AV)} {O : List (Nat × Kind)} {n i : Nat}
 {d : Nat} {ty : TypeId} {pos : String} {af : Array Edge} {gd : Option (Nat × Bool)}
theorem rh (L : List Nat) {fop : Operand} {args : Array Operand} {ats : Array TypeId} {f : FuncId} {caps cargs : List AV} {Hc : List (Nat × Nat × AV)} {Oc : List (Nat × Kind)}
  {K : AV → List (Nat × Nat × AV) → List (Nat × Kind) → Nat → Prop} (hd : Nat.blt d N = true) (hf : ev σ fop = .fn f caps) (call : aP P f L.length cargs Hc Oc K)
  (hL : fH n L = true) (ha : args.toList.map (Gz ⟨σ, H, O, n⟩ L) ++ caps = gH (gz L 0) cargs) (hal : dT L.length cargs = true) (hH : ib H O L Hc) (hO : iz O L Oc)
  (k : ∀ r H' O' n', K r H' O' n' → aM P N n0 ops rest Q ⟨(d, r.ren (gz L n)) :: σ, yS (gz L n) H' ++ kx L H, yE (gz L n) O' ++ cd L O, n + (n' - L.length)⟩) :
  aM P N n0 ops (⟨some d, .call ⟨.value fop, args, ats⟩, ty, pos, af, none⟩ :: rest) Q ⟨σ, H, O, n⟩ :=
 zG L Z Z hd hf hL ha hal hH hO call k
theorem I2 (L : List Nat) {fop : Operand} {args : Array Operand} {ats : Array TypeId} {f : FuncId} {caps cargs : List AV} {Hc : List (Nat × Nat × AV)} {Oc : List (Nat × Kind)}
  {K : AV → List (Nat × Nat × AV) → List (Nat × Kind) → Nat → Prop} (hd : Nat.blt d N = true) (hf : ev σ fop = .bfn f caps) (call : aP P f L.length cargs Hc Oc K)
  (hL : fH n L = true) (ha : caps ++ args.toList.map (Gz ⟨σ, H, O, n⟩ L) = gH (gz L 0) cargs) (hal : dT L.length cargs = true) (hH : ib H O L Hc) (hO : iz O L Oc)
  (k : ∀ r H' O' n', K r H' O' n' → aM P N n0 ops rest Q ⟨(d, r.ren (gz L n)) :: σ, yS (gz L n) H' ++ kx L H, yE (gz L n) O' ++ cd L O, n + (n' - L.length)⟩) :
  aM P N n0 ops (⟨some d, .call ⟨.value fop, args, ats⟩, ty, pos, af, none⟩ :: rest) Q ⟨σ, H, O, n⟩ :=
 yG L Z Z hd hf hL ha hal hH hO call k
end
end Go.Pv
namespace Go.Pv
open Go.RowKit (Below)
set_option linter.unusedSimpArgs false
set_option linter.unusedSectionVars false
set_option linter.unusedVariables false
section
variable {P : Program} {N n0 : Nat} {Q : bY} {s : St} {w0 : World} {g0 : G} {a : Act} {w : World} {g : G} {ops : Array Oper} {o : Oper} {rest : List Oper}
theorem dh.turn (h : dh N n0 w0 g0 s a w g) {w' : World} {g' : G} {n' : Nat} {O' : List (Nat × Kind)} (D : List Nat) (hos : w'.os = w.os) (htp : w'.tape = w.tape) (hout : w'.output = w.output) (hsz : w.heap.size ≤ w'.heap.size)
  (hst : ∀ b o, o < g.top b → w'.cell? ⟨b, o, none⟩ = w.cell? ⟨b, o, none⟩) (htop : ∀ b, g.top b ≤ g'.top b)
  (hblk : ∀ b, b < w.heap.size → (∀ i, i ∈ D → g.owner b ≠ some i) → w'.heap[b]? = w.heap[b]? ∧ g'.owner b = g.owner b ∧ g'.top b = g.top b)
  (hconv : ∀ b j, j < s.n → j ∉ D → g'.owner b = some j → g.owner b = some j)
  (hid : ∀ i, i < s.n → g'.blk i = g.blk i ∧ g'.own i = g.own i ∧ g'.wd i = g.wd i)
  (hD : ∀ i, i ∈ D → ∃ v, g.own i = some v) (hwf : WF g' w' n') (hn : s.n ≤ n') (hO : mL O' w' g') :
  dh N n0 w0 g0 ⟨s.σ, s.H, O' ++ cd D s.O, n'⟩ a w' g' := by
 have hm : gC w g w' g' := ⟨⟨htop, hst⟩, fun id b hb => by rw [(hid id (h.wf.blkOwner id b hb).2.2.2).1]; exact hb, fun id v hv => by rw [(hid id (h.wf.ownLt id v hv)).2.1]; exact hv,
  fun id v hv => (hid id (h.wf.ownLt id v hv)).2.2⟩
 have hidx : ∀ {D : List Nat} {i : Nat}, ej D i = none → i ∉ D := by
  intro D
  induction D with
  | nil => intro i _ h; cases h
  | cons x D ih =>
   intro i h hm
   simp only [ej] at h
   split at h
   · cases h
   ·
    rename_i hx
    cases hr : ej D i with
    | none =>
     rcases List.mem_cons.1 hm with rfl | hm
     · simp at hx
     · exact ih hr hm
    | some j => simp [hr] at h
 exact {
  defers := h.defers
  size := h.size
  slots := fun t => (h.slots t).mono _ _ hm
  cells := fun i p x hx => by
   obtain ⟨b, c, e, hb, hw, v, hv, r⟩ := h.cells i p x hx
   obtain ⟨k1, k2, _, _⟩ := h.wf.blkOwner i b hb
   have := hblk b k2 (fun j hj e => by
    rw [k1] at e
    obtain rfl := Ke e
    obtain ⟨u, hu⟩ := hD _ hj
    rw [h.wf.sep _ _ hb] at hu; cases hu)
   exact ⟨b, c, e, hm.blk _ _ hb, by rw [this.1]; exact hw, v, hv, r.mono _ _ hm⟩
  owns := fun i K hx => by
   rcases sy hx with hx | hx
   · exact hO.at hx
   ·
    obtain ⟨hx, hi⟩ := iK hx
    have hni := hidx hi
    have hk := h.owns.at hx
    obtain ⟨v, hv⟩ := Kind.own_some hk
    refine Kind.keep hk ⟨hm, fun b hb => ?_, fun b hb => hconv b i (h.wf.ownLt i v hv) hni hb⟩
    have := hblk b (h.wf.ownerLt hb) (fun j hj e => by
     rw [hb] at e
     obtain rfl := Ke e
     exact hni hj)
    exact ⟨this.1, by rw [this.2.1]; exact hb, this.2.2⟩
  wf := hwf
  frame := {
   os := hos.trans h.frame.os
   tape := htp.trans h.frame.tape
   output := hout.trans h.frame.output
   size := Nat.le_trans h.frame.size hsz
   block := fun b hb ho => by
    have h1 := (h.frame.foreign b hb ho).1
    rw [(hblk b (Nat.lt_of_lt_of_le hb h.frame.size) (fun j _ e => by rw [h1] at e; cases e)).1]
    exact h.frame.block b hb ho
   foreign := fun b hb ho => by
    have h1 := h.frame.foreign b hb ho
    have := hblk b (Nat.lt_of_lt_of_le hb h.frame.size) (fun j _ e => by rw [h1.1] at e; cases e)
    exact ⟨by rw [this.2.1]; exact h1.1, by rw [this.2.2]; exact h1.2⟩
   top := fun b => Nat.le_trans (h.frame.top b) (htop b)
   stable := fun b o ho => (hst b o (Nat.lt_of_lt_of_le ho (h.frame.top b))).trans (h.frame.stable b o ho)
   blk := fun id hi => by rw [(hid id (Nat.lt_of_lt_of_le hi h.nle)).1]; exact h.frame.blk id hi
   own := fun id hi => by rw [(hid id (Nat.lt_of_lt_of_le hi h.nle)).2.1]; exact h.frame.own id hi
   wd := fun id hi => by rw [(hid id (Nat.lt_of_lt_of_le hi h.nle)).2.2]; exact h.frame.wd id hi }
  nle := Nat.le_trans h.nle hn
  laid := h.laid }
def G.newOwn (g : G) (n : Nat) (v : Value) (z : Nat) (b : Option Nat) (top : Nat) : G where
 blk := g.blk
 own i := if i = n then some v else g.own i
 wd i := if i = n then z else g.wd i
 owner c := if b = some c then some n else g.owner c
 top c := if b = some c then top else g.top c
theorem WF.fresh (h : WF g w s.n) : g.blk s.n = none ∧ g.own s.n = none := by
 constructor
 ·
  cases hb : g.blk s.n with
  | none => rfl
  | some b => exact absurd (h.blkOwner _ _ hb).2.2.2 (Nat.lt_irrefl _)
 ·
  cases hb : g.own s.n with
  | none => rfl
  | some b => exact absurd (h.ownLt _ _ hb) (Nat.lt_irrefl _)
def eK (wr : Bool) (z : Nat) (xs : List (List AV)) : Kind := if wr then .wr z xs else .row z xs
structure ol (w w' : World) (ob : Obj) : Prop where
 heap : w'.heap = w.heap.push ob
 os : w'.os = w.os
 tape : w'.tape = w.tape
 output : w'.output = w.output
theorem ol.old {w' : World} {ob : Obj} (h : ol w w' ob) {b : Nat} (hb : b < w.heap.size) : w'.heap[b]? = w.heap[b]? := by rw [h.heap]; exact mR hb
theorem dh.newRow (h : dh N n0 w0 g0 s a w g) {w' : World} {xs : List (List AV)} {vs rest : List Value} {e : TypeId} {z cap : Nat} (wr : Bool) (D : List Nat) (hD : ∀ i, i ∈ D → ∃ v, g.own i = some v)
  {fr : Nat × Nat} (hfr : fr = (0, 0) ∨ vs.length + rest.length ≤ fr.1) (hG : ol w w' (.cells (vs ++ rest).toArray e fr)) (hw : eB z xs) (hc : xs.length ≤ cap) (hsz : cap * z ≤ vs.length + rest.length)
  (hr : aG w (if wr then g else G.ofTop g.top) xs.flatten vs) :
  ∃ g', dh N n0 w0 g0 ⟨s.σ, s.H, (s.n, eK wr z xs) :: cd D s.O, s.n + 1⟩ a w' g' ∧ g'.own s.n = some (.slice (some ⟨w.heap.size, 0, none⟩) xs.length cap) ∧ gC w g w' g' := by
 let v : Value := .slice (some ⟨w.heap.size, 0, none⟩) xs.length cap
 let g' : G := g.newOwn s.n v z (some w.heap.size) (if wr then 0 else xs.length * z)
 obtain ⟨hnb, hno⟩ := h.wf.fresh
 have hne : ∀ b, b < w.heap.size → ¬ (w.heap.size = b) := fun b hb e => by omega
 have hob : w'.heap[w.heap.size]? = some (.cells (vs ++ rest).toArray e fr) := by rw [hG.heap]; simp
 have hsize : w'.heap.size = w.heap.size + 1 := by rw [hG.heap]; simp
 have hcell : ∀ b o, o < g.top b → w'.cell? ⟨b, o, none⟩ = w.cell? ⟨b, o, none⟩ := fun b o ho => jJ (hG.old (h.wf.topLt ho))
 have htop : ∀ b, g.top b ≤ g'.top b := fun b => by
  simp only [g', G.newOwn]
  split
  ·
   rename_i hb
   obtain rfl := Ke hb
   rw [h.wf.topNew _ (Nat.le_refl _)]; exact Nat.zero_le _
  · exact Nat.le_refl _
 have hm : gC w g w' g' := ⟨⟨htop, hcell⟩, fun _ _ e => e, fun id u hu => by
  have : id ≠ s.n := fun e => by rw [e, hno] at hu; cases hu
  simp [g', G.newOwn, this, hu], fun id u hu => by
  have : id ≠ s.n := fun e => by rw [e, hno] at hu; cases hu
  simp [g', G.newOwn, this]⟩
 have hlen : vs.length = xs.length * z := by rw [hr.length, hw.flatten_length]
 have hours : mM s.n w' g' ⟨w.heap.size, 0, none⟩ (cap * z) := by
  refine ⟨rfl, by simp [g', G.newOwn], _, _, _, hob, by simp; omega, ?_⟩
  rw [List.size_toArray, List.length_append]; exact hfr
 have hvs : ∀ j u, vs[j]? = some u → w'.cell? ⟨w.heap.size, 0 + j, none⟩ = some u := fun j u hu => by
  have hj := (List.getElem?_eq_some_iff.1 hu).1
  simp only [World.cell?, hob, Nat.zero_add]
  simp [List.getElem?_append_left hj, hu]
 have hK : (eK wr z xs).holds s.n w' g' := by
  cases wr with
  | true =>
   refine ⟨hw, by simp [g', G.newOwn], some ⟨w.heap.size, 0, none⟩, cap, by simp [g', G.newOwn, v], hc, (fun e => by cases e), fun ad e => ?_⟩
   obtain rfl := Ke e
   exact ⟨hours, by simp [g', G.newOwn], vs, aG.mono _ _ hm hr, hvs⟩
  | false =>
   refine ⟨hw, by simp [g', G.newOwn], some ⟨w.heap.size, 0, none⟩, cap, by simp [g', G.newOwn, v], hc, (fun e => by cases e), fun ad e => ?_⟩
   obtain rfl := Ke e
   refine ⟨fun _ => rfl, ?_, .inr ⟨hours, by simp [g', G.newOwn]⟩⟩
   refine bk.of_flat (nq (aG.mono _ _ (pB.ofTop hm.t) hr) fun j u hu => ⟨hvs j u hu, ?_⟩)
   have hj := (List.getElem?_eq_some_iff.1 hu).1
   simp only [g', G.newOwn, if_true, Nat.zero_add]
   simp; omega
 refine ⟨g', ?_, by simp [g', G.newOwn, v], hm⟩
 have := h.turn (w' := w') (g' := g') (n' := s.n + 1) (O' := [(s.n, eK wr z xs)]) D hG.os hG.tape hG.output (by omega) hcell htop
  (fun b hb _ => by refine ⟨hG.old hb, ?_, ?_⟩ <;> simp [g', G.newOwn, hne b hb])
  (fun b j hj _ hb => by
   simp only [g', G.newOwn] at hb
   split at hb
   · obtain rfl := Ke hb; omega
   · exact hb)
  (fun i hi => by
   have : i ≠ s.n := by omega
   simp [g', G.newOwn, this])
  hD
  {
   topNew := fun b hb => by
    have h1 : ¬ (w.heap.size = b) := by omega
    simp only [g', G.newOwn, Option.some.injEq, h1, if_false]
    exact h.wf.topNew b (by omega)
   ownNew := fun b hb => by
    have h1 : ¬ (w.heap.size = b) := by omega
    simp only [g', G.newOwn, Option.some.injEq, h1, if_false]
    exact h.wf.ownNew b (by omega)
   blkOwner := fun id b hb => by
    obtain ⟨k1, k2, k3, k4⟩ := h.wf.blkOwner id b hb
    simp only [g', G.newOwn, Option.some.injEq, hne b k2, if_false]
    exact ⟨k1, by omega, k3, by omega⟩
   ownLt := fun id u hu => by
    simp only [g', G.newOwn] at hu
    split at hu
    · omega
    · have := h.wf.ownLt id u hu; omega
   ownSl := fun id u hu => by
    simp only [g', G.newOwn] at hu
    split at hu
    · obtain rfl := Ke hu; rfl
    · exact h.wf.ownSl id u hu
   sep := fun id b hb => by
    have hb' : g.blk id = some b := hb
    have : id ≠ s.n := fun e => by rw [e, hnb] at hb'; cases hb'
    simp only [g', G.newOwn, this, if_false]
    exact h.wf.sep id b hb'
   idLt := fun b i hb => by
    simp only [g', G.newOwn] at hb
    split at hb
    · obtain rfl := Ke hb; omega
    · have := h.wf.idLt b i hb; omega }
  (Nat.le_succ _)
  (fun i K hx => by
   simp only [dk] at hx
   split at hx
   ·
    rename_i hi
    have hi' : s.n = i := by simpa using hi
    subst hi'
    obtain rfl := Ke hx
    exact hK
   · cases hx)
 exact this
theorem dh.newHdr (h : dh N n0 w0 g0 s a w g) {v : Value} {K : Kind} {z : Nat} (D : List Nat) (hD : ∀ i, i ∈ D → ∃ v, g.own i = some v) (hv1 : v.oneCell' = true)
  (hK : ∀ g' : G, g'.own s.n = some v → g'.wd s.n = z → g'.top = g.top → gC w g w g' → K.holds s.n w g') :
  ∃ g', dh N n0 w0 g0 ⟨s.σ, s.H, (s.n, K) :: cd D s.O, s.n + 1⟩ a w g' ∧ g'.own s.n = some v ∧ gC w g w g' := by
 let g' : G := g.newOwn s.n v z none 0
 obtain ⟨hnb, hno⟩ := h.wf.fresh
 have hm : gC w g w g' := ⟨⟨fun b => by simp [g', G.newOwn], fun _ _ _ => rfl⟩, fun _ _ e => e, fun id u hu => by
  have : id ≠ s.n := fun e => by rw [e, hno] at hu; cases hu
  simp [g', G.newOwn, this, hu], fun id u hu => by
  have : id ≠ s.n := fun e => by rw [e, hno] at hu; cases hu
  simp [g', G.newOwn, this]⟩
 have htop : g'.top = g.top := by funext b; simp [g', G.newOwn]
 have hown : g'.owner = g.owner := by funext b; simp [g', G.newOwn]
 have hk := hK g' (by simp [g', G.newOwn]) (by simp [g', G.newOwn]) htop hm
 refine ⟨g', ?_, by simp [g', G.newOwn], hm⟩
 exact h.turn (w' := w) (g' := g') (n' := s.n + 1) (O' := [(s.n, K)]) D Z Z Z (Nat.le_refl _) (fun _ _ _ => rfl) (fun b => by rw [htop]; exact Nat.le_refl _)
  (fun b hb _ => ⟨rfl, by rw [hown], by rw [htop]⟩)
  (fun b j hj _ hb => by rw [hown] at hb; exact hb)
  (fun i hi => by
   have : i ≠ s.n := by omega
   simp [g', G.newOwn, this])
  hD
  {
   topNew := fun b hb => by rw [htop]; exact h.wf.topNew b hb
   ownNew := fun b hb => by rw [hown]; exact h.wf.ownNew b hb
   blkOwner := fun id b hb => by
    obtain ⟨k1, k2, k3, k4⟩ := h.wf.blkOwner id b hb
    rw [hown, htop]
    exact ⟨k1, k2, k3, by omega⟩
   ownLt := fun id u hu => by
    simp only [g', G.newOwn] at hu
    split at hu
    · omega
    · have := h.wf.ownLt id u hu; omega
   ownSl := fun id u hu => by
    simp only [g', G.newOwn] at hu
    split at hu
    · obtain rfl := Ke hu; exact hv1
    · exact h.wf.ownSl id u hu
   sep := fun id b hb => by
    have hb' : g.blk id = some b := hb
    have : id ≠ s.n := fun e => by rw [e, hnb] at hb'; cases hb'
    simp only [g', G.newOwn, this, if_false]
    exact h.wf.sep id b hb'
   idLt := fun b i hb => by
    rw [hown] at hb
    have := h.wf.idLt b i hb; omega }
  (Nat.le_succ _)
  (fun i K' hx => by
   simp only [dk] at hx
   split at hx
   ·
    rename_i hi
    have hi' : s.n = i := by simpa using hi
    subst hi'
    obtain rfl := Ke hx
    exact hk
   · cases hx)
theorem dh.moved (h : dh N n0 w0 g0 s a w g) {w' : World} {v v0 : Value} {K : Kind} {k z b : Nat} (hown : g.own k = some v0) (howner : g.owner b = some k) (hv1 : v.oneCell' = true)
  (m1 : w'.os = w.os) (m2 : w'.tape = w.tape) (m3 : w'.output = w.output) (m4 : w'.heap.size = w.heap.size) (hcw : ∀ x o, w'.cell? ⟨x, o, none⟩ = w.cell? ⟨x, o, none⟩) (hoth : ∀ x, x ≠ b → w'.heap[x]? = w.heap[x]?)
  (hK : ∀ g' : G, g'.own s.n = some v → g'.wd s.n = z → g'.top = g.top → g'.owner b = some s.n → gC w g w' g' → K.holds s.n w' g') :
  ∃ g', dh N n0 w0 g0 ⟨s.σ, s.H, (s.n, K) :: cd [k] s.O, s.n + 1⟩ a w' g' ∧ g'.own s.n = some v ∧ gC w g w' g' := by
 let g' : G := g.newOwn s.n v z (some b) (g.top b)
 obtain ⟨hnb, hno⟩ := h.wf.fresh
 have hbs : b < w.heap.size := h.wf.ownerLt howner
 have hkn : k < s.n := h.wf.ownLt _ _ hown
 have htop : g'.top = g.top := by
  funext c
  simp only [g', G.newOwn]
  split
  · rename_i e; obtain rfl := Ke e; rfl
  · rfl
 have hm : gC w g w' g' := ⟨⟨fun c => by rw [htop]; exact Nat.le_refl _, fun x o _ => hcw x o⟩, fun _ _ e => e, fun id u hu => by
  have : id ≠ s.n := fun e => by rw [e, hno] at hu; cases hu
  simp [g', G.newOwn, this, hu], fun id u hu => by
  have : id ≠ s.n := fun e => by rw [e, hno] at hu; cases hu
  simp [g', G.newOwn, this]⟩
 have hne : ∀ id b', g.blk id = some b' → b' ≠ b := fun id b' hb e => by
  subst e
  have := (h.wf.blkOwner id b' hb).1
  rw [howner] at this
  obtain rfl := Ke this
  rw [h.wf.sep _ _ hb] at hown; cases hown
 have hk := hK g' (by simp [g', G.newOwn]) (by simp [g', G.newOwn]) htop (by simp [g', G.newOwn]) hm
 refine ⟨g', ?_, by simp [g', G.newOwn], hm⟩
 exact h.turn (w' := w') (g' := g') (n' := s.n + 1) (O' := [(s.n, K)]) [k] m1 m2 m3 (by rw [m4]; exact Nat.le_refl _) (fun x o _ => hcw x o) (fun c => by rw [htop]; exact Nat.le_refl _)
  (fun b' hb' hno' => by
   have hbb : b' ≠ b := fun e => by subst e; exact hno' k (by simp) howner
   refine ⟨hoth b' hbb, ?_, by rw [htop]⟩
   simp [g', G.newOwn, Ne.symm hbb])
  (fun b' j hj hjD hb' => by
   simp only [g', G.newOwn] at hb'
   split at hb'
   · obtain rfl := Ke hb'; omega
   · exact hb')
  (fun i hi => by
   have : i ≠ s.n := by omega
   simp [g', G.newOwn, this])
  (fun i hi => by
   obtain rfl : i = k := by simpa using hi
   exact ⟨_, hown⟩)
  {
   topNew := fun b' hb' => by rw [htop]; exact h.wf.topNew b' (by omega)
   ownNew := fun b' hb' => by
    have h1 : ¬ (b = b') := by omega
    simp only [g', G.newOwn, Option.some.injEq, h1, if_false]
    exact h.wf.ownNew b' (by omega)
   blkOwner := fun id b' hb' => by
    obtain ⟨k1, k2, k3, k4⟩ := h.wf.blkOwner id b' hb'
    have h1 := Ne.symm (hne id b' hb')
    rw [htop]
    simp only [g', G.newOwn, Option.some.injEq, h1, if_false]
    exact ⟨k1, by omega, k3, by omega⟩
   ownLt := fun id u hu => by
    simp only [g', G.newOwn] at hu
    split at hu
    · omega
    · have := h.wf.ownLt id u hu; omega
   ownSl := fun id u hu => by
    simp only [g', G.newOwn] at hu
    split at hu
    · obtain rfl := Ke hu; exact hv1
    · exact h.wf.ownSl id u hu
   sep := fun id b' hb' => by
    have hb'' : g.blk id = some b' := hb'
    have : id ≠ s.n := fun e => by rw [e, hnb] at hb''; cases hb''
    simp only [g', G.newOwn, this, if_false]
    exact h.wf.sep id b' hb''
   idLt := fun b' i hb' => by
    simp only [g', G.newOwn] at hb'
    split at hb'
    · obtain rfl := Ke hb'; omega
    · have := h.wf.idLt b' i hb'; omega }
  (Nat.le_succ _)
  (fun i K' hx => by
   simp only [dk] at hx
   split at hx
   ·
    rename_i hi
    have hi' : s.n = i := by simpa using hi
    subst hi'
    obtain rfl := Ke hx
    exact hk
   · cases hx)
theorem ke (b : Nat) : ∀ (vs : List Value) (o : Nat) (w : World) {i : Nat}, i ≠ b → (w.setCells b o vs).heap[i]? = w.heap[i]?
 | [], _, _, _, _ => rfl
 | v :: r, o, w, i, h => by
  rw [World.setCells, ke b r (o + 1) _ h]
  simp only [World.setCell, Array.getElem?_modify]
  rw [if_neg (Ne.symm h)]
theorem lc (b : Nat) : ∀ (vs : List Value) (o : Nat) (w : World), (w.setCells b o vs).os = w.os ∧ (w.setCells b o vs).tape = w.tape ∧ (w.setCells b o vs).output = w.output ∧ (w.setCells b o vs).heap.size = w.heap.size
 | [], _, _ => ⟨rfl, rfl, rfl, rfl⟩
 | v :: r, o, w => by
  rw [World.setCells]
  obtain ⟨h1, h2, h3, h4⟩ := lc b r (o + 1) (w.setCell ⟨b, o, none⟩ v)
  exact ⟨h1, h2, h3, by rw [h4]; simp [World.setCell]⟩
theorem km (b : Nat) : ∀ (vs : List Value) (o : Nat) (w : World) {c : Array Value} {e : TypeId} {fr : Nat × Nat}, w.heap[b]? = some (.cells c e fr) →
  ∃ c', (w.setCells b o vs).heap[b]? = some (.cells c' e fr) ∧ c'.size = c.size
 | [], _, _, c, _, _, h => ⟨c, h, rfl⟩
 | v :: r, o, w, c, e, fr, h => by
  rw [World.setCells]
  obtain ⟨c', h1, h2⟩ := km b r (o + 1) (w.setCell ⟨b, o, none⟩ v) (c := c.setIfInBounds o v) (e := e) (fr := fr) (by
   simp only [World.setCell, Array.getElem?_modify, if_true, h]; rfl)
  exact ⟨c', h1, by simpa using h2⟩
theorem lr {c : Array Value} {e : TypeId} {fr : Nat × Nat} {b o : Nat} (h : w.heap[b]? = some (.cells c e fr)) : w.cell? ⟨b, o, none⟩ = c[o]? := by simp [World.cell?, h]
theorem dh.added (h : dh N n0 w0 g0 s a w g) (wr : Bool) {k z cap : Nat} {xs ys : List (List AV)} {ad : Addr} {news : List Value} (hk : dk s.O k = some (eK wr z xs)) (hown : g.own k = some (.slice (some ad) xs.length cap))
  (hours : mM k w g ad (cap * z)) (htop : if wr then g.top ad.block ≤ ad.off else g.top ad.block = ad.off + xs.length * z) (hw : eB z ys) (hfit : xs.length + ys.length ≤ cap)
  (hr : aG w (if wr then g else G.ofTop g.top) ys.flatten news) :
  ∃ g', dh N n0 w0 g0 ⟨s.σ, s.H, (s.n, eK wr z (xs ++ ys)) :: cd [k] s.O, s.n + 1⟩ a (w.setCells ad.block (ad.off + xs.length * z) news) g' ∧
   g'.own s.n = some (.slice (some ad) (xs.length + ys.length) cap) ∧ gC w g (w.setCells ad.block (ad.off + xs.length * z) news) g' := by
 obtain ⟨hspot, howner, c, e, fr, hc, hcs, hfz⟩ := hours
 obtain ⟨b, off, sp⟩ := ad
 simp only at hspot howner hc hcs hfz htop
 subst hspot
 let w' := w.setCells b (off + xs.length * z) news
 let v : Value := .slice (some ⟨b, off, none⟩) (xs.length + ys.length) cap
 let T : Nat := if wr then g.top b else off + (xs.length + ys.length) * z
 let g' : G := g.newOwn s.n v z (some b) T
 obtain ⟨hnb, hno⟩ := h.wf.fresh
 have hbs : b < w.heap.size := h.wf.ownerLt howner
 have hkn : k < s.n := h.wf.ownLt _ _ hown
 have hlen : news.length = ys.length * z := by rw [hr.length, hw.flatten_length]
 have hfz' : (xs.length + ys.length) * z ≤ cap * z := Nat.mul_le_mul_right _ hfit
 rw [Nat.add_mul] at hfz'
 obtain ⟨m1, m2, m3, m4⟩ := lc b news (off + xs.length * z) w
 obtain ⟨c', hc', hcs'⟩ := km b news (off + xs.length * z) w hc
 have hws : w'.heap.size = w.heap.size := m4
 have htb : g.top b ≤ off + xs.length * z := by cases wr <;> simp at htop <;> omega
 have hT : g.top b ≤ T := by
  simp only [T]; cases wr <;> simp
  simp at htop; rw [Nat.add_mul]; omega
 have hst : ∀ c o, o < g.top c → w'.cell? ⟨c, o, none⟩ = w.cell? ⟨c, o, none⟩ := fun c o ho => by
  refine World.cell?_setCells_out b news _ w _ fun e _ => .inl ?_
  simp only at e; subst e; show o < off + xs.length * z; omega
 have htops : ∀ c, g.top c ≤ g'.top c := fun c => by
  simp only [g', G.newOwn]
  split
  · rename_i e; obtain rfl := Ke e; exact hT
  · exact Nat.le_refl _
 have hm : gC w g w' g' := ⟨⟨htops, hst⟩, fun _ _ e => e, fun id u hu => by
  have : id ≠ s.n := fun e => by rw [e, hno] at hu; cases hu
  simp [g', G.newOwn, this, hu], fun id u hu => by
  have : id ≠ s.n := fun e => by rw [e, hno] at hu; cases hu
  simp [g', G.newOwn, this]⟩
 have hin : ∀ j u, news[j]? = some u → w'.cell? ⟨b, off + xs.length * z + j, none⟩ = some u := fun j u hu => by
  obtain ⟨hj, rfl⟩ := List.getElem?_eq_some_iff.1 hu
  refine World.cell?_setCells_in b news (off + xs.length * z) w (fun i hi => ?_) j hj
  rw [lr hc]
  have : off + xs.length * z + i < c.size := by omega
  simp [this]
 have hours' : mM s.n w' g' ⟨b, off, none⟩ (cap * z) := by
  refine ⟨rfl, by simp [g', G.newOwn], c', e, fr, hc', by show off + cap * z ≤ c'.size; omega, ?_⟩
  rw [hcs']; exact hfz
 have hkh := h.owns.at hk
 have hwd : eB z (xs ++ ys) := by
  intro r hr'
  rcases List.mem_append.1 hr' with hx | hx
  · cases wr <;> exact hkh.1 r hx
  · exact hw r hx
 have hK : (eK wr z (xs ++ ys)).holds s.n w' g' := by
  cases wr with
  | true =>
   obtain ⟨q1, q2, a', cap', q3, q4, q5, q6⟩ := hkh
   rw [hown] at q3
   obtain ⟨rfl, _, rfl⟩ : some (⟨b, off, none⟩ : Addr) = a' ∧ xs.length = xs.length ∧ cap = cap' := by simpa using q3
   obtain ⟨_, _, us, hus, hcell⟩ := q6 _ rfl
   refine ⟨hwd, by simp [g', G.newOwn], some ⟨b, off, none⟩, cap, by simp [g', G.newOwn, v], by simpa using hfit, (fun e => by cases e), fun ad e => ?_⟩
   obtain rfl := Ke e
   refine ⟨hours', by simp [g', G.newOwn, T]; simpa using htop, us ++ news, ?_, fun j u hu => ?_⟩
   · rw [List.flatten_append]; exact aG.append (aG.mono _ _ hm hus) (aG.mono _ _ hm hr)
   ·
    have hul : us.length = xs.length * z := by rw [hus.length, eB.flatten_length q1]
    by_cases hj : j < us.length
    ·
     rw [List.getElem?_append_left hj] at hu
     have := hcell j u hu
     rw [← this]
     exact World.cell?_setCells_out b news _ w _ fun _ _ => .inl (by show off + j < off + xs.length * z; omega)
    ·
     rw [List.getElem?_append_right (by omega)] at hu
     have := hin _ u hu
     rwa [show off + xs.length * z + (j - us.length) = off + j by omega] at this
  | false =>
   obtain ⟨q1, q2, a', cap', q3, q4, q5, q6⟩ := hkh
   rw [hown] at q3
   obtain ⟨rfl, _, rfl⟩ : some (⟨b, off, none⟩ : Addr) = a' ∧ xs.length = xs.length ∧ cap = cap' := by simpa using q3
   obtain ⟨_, q7, _⟩ := q6 _ rfl
   refine ⟨hwd, by simp [g', G.newOwn], some ⟨b, off, none⟩, cap, by simp [g', G.newOwn, v], by simpa using hfit, (fun e => by cases e), fun ad e => ?_⟩
   obtain rfl := Ke e
   refine ⟨fun _ => rfl, ?_, .inr ⟨hours', by simp [g', G.newOwn, T]⟩⟩
   refine bk.append (bk.mono _ _ _ hm.t q7) ?_
   rw [eB.flatten_length q1]
   refine bk.of_flat (nq (aG.mono _ _ (pB.ofTop hm.t) hr) fun j u hu => ⟨hin j u hu, ?_⟩)
   have hj := (List.getElem?_eq_some_iff.1 hu).1
   simp only [g', G.newOwn, if_true, T, Bool.false_eq_true, if_false]
   rw [Nat.add_mul]; omega
 refine ⟨g', ?_, by simp [g', G.newOwn, v], hm⟩
 have hne : ∀ id b', g.blk id = some b' → b' ≠ b := fun id b' hb e => by
  subst e
  have := (h.wf.blkOwner id b' hb).1
  rw [howner] at this
  obtain rfl := Ke this
  rw [h.wf.sep _ _ hb] at hown; cases hown
 exact h.turn (w' := w') (g' := g') (n' := s.n + 1) (O' := [(s.n, eK wr z (xs ++ ys))]) [k] m1 m2 m3 (by rw [m4]; exact Nat.le_refl _) hst htops
  (fun b' hb' hno => by
   have hbb : b' ≠ b := fun e => by subst e; exact hno k (by simp) howner
   refine ⟨ke b news _ w hbb, ?_, ?_⟩ <;> simp [g', G.newOwn, Ne.symm hbb])
  (fun b' j hj hjD hb' => by
   simp only [g', G.newOwn] at hb'
   split at hb'
   · obtain rfl := Ke hb'; omega
   · exact hb')
  (fun i hi => by
   have : i ≠ s.n := by omega
   simp [g', G.newOwn, this])
  (fun i hi => by
   obtain rfl : i = k := by simpa using hi
   exact ⟨_, hown⟩)
  {
   topNew := fun b' hb' => by
    have h1 : ¬ (b = b') := by omega
    simp only [g', G.newOwn, Option.some.injEq, h1, if_false]
    exact h.wf.topNew b' (by omega)
   ownNew := fun b' hb' => by
    have h1 : ¬ (b = b') := by omega
    simp only [g', G.newOwn, Option.some.injEq, h1, if_false]
    exact h.wf.ownNew b' (by omega)
   blkOwner := fun id b' hb' => by
    obtain ⟨k1, k2, k3, k4⟩ := h.wf.blkOwner id b' hb'
    have h1 := Ne.symm (hne id b' hb')
    simp only [g', G.newOwn, Option.some.injEq, h1, if_false]
    exact ⟨k1, by omega, k3, by omega⟩
   ownLt := fun id u hu => by
    simp only [g', G.newOwn] at hu
    split at hu
    · omega
    · have := h.wf.ownLt id u hu; omega
   ownSl := fun id u hu => by
    simp only [g', G.newOwn] at hu
    split at hu
    · obtain rfl := Ke hu; rfl
    · exact h.wf.ownSl id u hu
   sep := fun id b' hb' => by
    have hb'' : g.blk id = some b' := hb'
    have : id ≠ s.n := fun e => by rw [e, hnb] at hb''; cases hb''
    simp only [g', G.newOwn, this, if_false]
    exact h.wf.sep id b' hb''
   idLt := fun b' i hb' => by
    simp only [g', G.newOwn] at hb'
    split at hb'
    · obtain rfl := Ke hb'; omega
    · have := h.wf.idLt b' i hb'; omega }
  (Nat.le_succ _)
  (fun i K hx => by
   simp only [dk] at hx
   split at hx
   ·
    rename_i hi
    have hi' : s.n = i := by simpa using hi
    subst hi'
    obtain rfl := Ke hx
    exact hK
   · cases hx)
end
end Go.Pv
namespace Go.Pv
open Go.RowKit (Below)
set_option linter.unusedSimpArgs false
set_option linter.unusedSectionVars false
set_option linter.unusedVariables false
def fI (z : Nat) (ys : List (List AV)) : Prop := ∀ r ∈ ys, r.length = z ∧ r.all AV.one = true ∧ dT 0 r = true
def vF (ys : List (List AV)) : Prop := ∀ r ∈ ys, r.all AV.one = true
theorem fI.wide {z : Nat} {ys : List (List AV)} (h : fI z ys) : eB z ys := fun r hr => (h r hr).1
theorem fI.ones {z : Nat} {ys : List (List AV)} (h : fI z ys) : vF ys := fun r hr => (h r hr).2.1
theorem fI.lim {z : Nat} : ∀ {ys : List (List AV)}, fI z ys → fo 0 ys = true
 | [], _ => rfl
 | y :: ys, h => by
  have h1 := (h y (by simp)).2.2
  have h2 : fo 0 ys = true := fI.lim fun r hr => h r (by simp [hr])
  simp only [fo, h1, h2, Bool.and_self]
theorem fI.nil {z : Nat} : fI z [] := fun _ h => by cases h
theorem fI.append {z : Nat} {xs ys : List (List AV)} (h : fI z xs) (k : fI z ys) : fI z (xs ++ ys) := fun r hr => by
 rcases List.mem_append.1 hr with hr | hr
 · exact h r hr
 · exact k r hr
theorem fI.map {α : Type} {z : Nat} {f : α → List AV} (h : ∀ a, (f a).length = z ∧ (f a).all AV.one = true ∧ dT 0 (f a) = true) (l : List α) : fI z (l.map f) := fun r hr => by
 obtain ⟨a, _, rfl⟩ := List.mem_map.1 hr
 exact h a
theorem fI.drop {z : Nat} {xs : List (List AV)} (h : fI z xs) (k : Nat) : fI z (xs.drop k) := fun r hr => h r (List.mem_of_mem_drop hr)
theorem fI.take {z : Nat} {xs : List (List AV)} (h : fI z xs) (k : Nat) : fI z (xs.take k) := fun r hr => h r (List.mem_of_mem_take hr)
theorem vF.flat {ys : List (List AV)} (h : vF ys) : ys.flatten.all AV.one = true := by
 rw [List.all_eq_true]
 intro x hx
 obtain ⟨r, hr, hxr⟩ := List.mem_flatten.1 hx
 exact List.all_eq_true.1 (h r hr) x hxr
def mY (b : ByteArray) : List (List AV) := b.data.toList.map fun c => [.int .u8 c.toNat]
theorem vG (b : ByteArray) : fI 1 (mY b) := fI.map (f := fun c : UInt8 => [AV.int .u8 c.toNat]) (fun _ => ⟨rfl, rfl, rfl⟩) _
theorem ow (b : ByteArray) : (mY b).length = b.size := by
 unfold mY; rw [List.length_map, Array.length_toList]; rfl
section
variable {P : Program} {N n0 : Nat} {Q : bY} {s : St} {w0 : World} {g0 : G} {a : Act} {w : World} {g : G} {ops : Array Oper} {o : Oper} {rest : List Oper}
inductive xY (P : Program) [dI P] (s : St) (wr : Bool) (z : Nat) (tx : TypeId) (x : Operand) : List (List AV) → Prop
 | sl {ys : List (List AV)} {i : TI} {e : TypeId} (hi : ti P tx = some i) (hk : i.k = .slice e) (h : gj s x = .sl ys) : xY P s wr z tx x ys
 | own {ys : List (List AV)} {i : TI} {e : TypeId} {k : Nat} (hwr : wr = true) (hi : ti P tx = some i) (hk : i.k = .slice e) (h : ev s.σ x = .own k) (hO : dk s.O k = some (.wr z ys)) : xY P s wr z tx x ys
 | own0 {ys : List (List AV)} {i : TI} {e : TypeId} {k : Nat} (hl : fo 0 ys = true) (hi : ti P tx = some i) (hk : i.k = .slice e) (h : ev s.σ x = .own k) (hO : dk s.O k = some (.wr z ys)) : xY P s wr z tx x ys
 | str {i : TI} {b : ByteArray} (hz : z = 1) (hi : ti P tx = some i) (hk : i.k = .str) (h : gj s x = .str b) : xY P s wr z tx x (mY b)
theorem aG.up {cs : List AV} {vs : List Value} (h : aG w (G.ofTop g.top) cs vs) : aG w g cs vs :=
 aG.mono _ _ (g := G.ofTop g.top) ⟨⟨fun _ => Nat.le_refl _, fun _ _ _ => rfl⟩, fun _ _ e => by simp [G.ofTop] at e, fun _ _ e => by simp [G.ofTop] at e, fun _ _ e => by simp [G.ofTop] at e⟩ h
theorem aG.up' {wr : Bool} {cs : List AV} {vs : List Value} (h : aG w (G.ofTop g.top) cs vs) : aG w (if wr then g else G.ofTop g.top) cs vs := by
 cases wr
 · exact h
 · exact aG.up h
theorem aG.closed {n : Nat} (hwf : WF g w n) {cs : List AV} {vs : List Value} (hl : dT 0 cs = true) (h : aG w g cs vs) : aG w (G.ofTop g.top) cs vs := by
 have := aG.cut 0 _ _ hl h
 rwa [px g hwf] at this
theorem lp (g : G) : ∀ l : List UInt8, aG w g (l.map fun c => AV.int .u8 c.toNat) (l.map fun c => Value.int .u8 c.toNat)
 | [] => rfl
 | _ :: l => ⟨_, _, rfl, rfl, lp g l⟩
theorem qS (b : ByteArray) : (mY b).flatten = b.data.toList.map fun c => AV.int .u8 c.toNat := by
 unfold mY
 generalize b.data.toList = l
 induction l with
 | nil => rfl
 | cons c l ih => simp only [List.map_cons, List.flatten_cons, ih]; rfl
theorem zj [dI P] (hi : dh N n0 w0 g0 s a w g) {wr : Bool} {z : Nat} {tx : TypeId} {x : Operand} {ys : List (List AV)} (h : xY P s wr z tx x ys) (hw : eB z ys) (h1 : vF ys) :
  ∃ news, Src P z tx (a.eval x) ys.length news w ∧ aG w (if wr then g else G.ofTop g.top) ys.flatten news := by
 have hone : ∀ {vs : List Value}, aG w g ys.flatten vs → ∀ u ∈ vs, u.oneCell' = true := fun hr => aG.ones hi.wf.ownSl hr h1.flat
 cases h with
 | @sl _ i e ht hk h =>
  obtain ⟨_, _, _, h2⟩ := aV ht
  have hr := dJ hi x
  rw [h] at hr
  obtain ⟨ad, cap, hv, hc, hn, had⟩ := hr
  rw [hv]
  have hu : P.underlying tx = some (.slice e) := by rw [h2.und, h2.desc_slice hk]
  cases ad with
  | none =>
   obtain rfl := hn rfl
   exact ⟨[], by simpa using Src.ofNil (P := P) w (size := z) hu cap, by simp [aG]⟩
  | some ad =>
   obtain ⟨hs, hrows⟩ := had ad rfl
   obtain ⟨vs, hl, hrep, hcell⟩ := cq.cells (G.ofTop g.top) (bk.flat hrows) rfl
   refine ⟨vs, Src.ofSlice (P := P) w hu ad ys.length cap vs (by rw [hl, hw.flatten_length]) (fun j u hju => ?_) (hone (aG.up hrep)), aG.up' hrep⟩
   have hne : ys ≠ [] := fun e => by
    subst e
    have := (List.getElem?_eq_some_iff.1 hju).1
    rw [hl] at this; simp at this
   have hsp := hs hne
   obtain ⟨b, off, sp⟩ := ad
   simp only at hsp; subst hsp
   rw [dz]; exact hcell j u hju
 | @own _ i e k hwr ht hk h hO =>
  obtain ⟨_, _, _, h2⟩ := aV ht
  have hr := bA hi.slots x
  rw [h] at hr
  have hu : P.underlying tx = some (.slice e) := by rw [h2.und, h2.desc_slice hk]
  obtain ⟨_, _, ad, cap, q1, q2, q3, q4⟩ := hi.owns.at hO
  have hv : a.eval x = .slice ad ys.length cap := by
   have : g.own k = some (a.eval x) := hr
   rw [q1] at this; exact (Ke this).symm
  rw [hv]
  cases ad with
  | none =>
   obtain ⟨rfl, _⟩ := q3 rfl
   exact ⟨[], by simpa using Src.ofNil (P := P) w (size := z) hu cap, by simp [aG]⟩
  | some ad =>
   obtain ⟨ho, _, vs, hrep, hcell⟩ := q4 ad rfl
   subst hwr
   refine ⟨vs, Src.ofSlice (P := P) w hu ad ys.length cap vs (by rw [hrep.length, hw.flatten_length]) (fun j u hju => ?_) (hone hrep), hrep⟩
   obtain ⟨b, off, sp⟩ := ad
   obtain rfl : sp = none := ho.1
   rw [dz]; exact hcell j u hju
 | @own0 _ i e k hcl ht hk h hO =>
  obtain ⟨_, _, _, h2⟩ := aV ht
  have hr := bA hi.slots x
  rw [h] at hr
  have hu : P.underlying tx = some (.slice e) := by rw [h2.und, h2.desc_slice hk]
  obtain ⟨_, _, ad, cap, q1, q2, q3, q4⟩ := hi.owns.at hO
  have hv : a.eval x = .slice ad ys.length cap := by
   have : g.own k = some (a.eval x) := hr
   rw [q1] at this; exact (Ke this).symm
  rw [hv]
  cases ad with
  | none =>
   obtain ⟨rfl, _⟩ := q3 rfl
   exact ⟨[], by simpa using Src.ofNil (P := P) w (size := z) hu cap, by simp [aG]⟩
  | some ad =>
   obtain ⟨ho, _, vs, hrep, hcell⟩ := q4 ad rfl
   refine ⟨vs, Src.ofSlice (P := P) w hu ad ys.length cap vs (by rw [hrep.length, hw.flatten_length]) (fun j u hju => ?_) (hone hrep), aG.up' (aG.closed hi.wf (fA hcl) hrep)⟩
   obtain ⟨b, off, sp⟩ := ad
   obtain rfl : sp = none := ho.1
   rw [dz]; exact hcell j u hju
 | @str i b hz ht hk h =>
  obtain ⟨_, _, _, h2⟩ := aV ht
  have hr := dJ hi x
  rw [h] at hr
  have hv : a.eval x = .string b := hr
  rw [hv]
  subst hz
  have hu : P.underlying tx = some .string := by rw [h2.und, h2.desc_str hk]
  refine ⟨byteCells b, by rw [ow]; exact Src.ofString (P := P) w hu b, ?_⟩
  rw [qS]
  exact lp _ _
inductive uQ (s : St) (wr : Bool) (z : Nat) (x : Operand) : List (List AV) → List Nat → Prop
 | nil (h : ev s.σ x = .nilS) : uQ s wr z x [] []
 | own {k : Nat} {xs : List (List AV)} (h : ev s.σ x = .own k) (hO : dk s.O k = some (eK wr z xs)) : uQ s wr z x xs [k]
theorem Dj (hi : dh N n0 w0 g0 s a w g) {wr : Bool} {z k : Nat} {xs : List (List AV)} (hO : dk s.O k = some (eK wr z xs)) :
  eB z xs ∧ ∃ ad cap, g.own k = some (.slice ad xs.length cap) ∧ xs.length ≤ cap ∧ (ad = none → xs = [] ∧ cap = 0) ∧
   (∃ olds, aG w (if wr then g else G.ofTop g.top) xs.flatten olds ∧ ∀ b, ad = some b → ∀ j u, olds[j]? = some u → b.spot = none ∧ w.cell? ⟨b.block, b.off + j, none⟩ = some u) ∧
   ∀ b, ad = some b → cap = xs.length ∨ (mM k w g b (cap * z) ∧ if wr then g.top b.block ≤ b.off else g.top b.block = b.off + xs.length * z) := by
 have h := hi.owns.at hO
 cases wr with
 | true =>
  obtain ⟨q1, _, ad, cap, q3, q4, q5, q6⟩ := h
  refine ⟨q1, ad, cap, q3, q4, q5, ?_, fun b e => .inr ⟨(q6 b e).1, (q6 b e).2.1⟩⟩
  cases ad with
  | none => obtain ⟨rfl, _⟩ := q5 rfl; exact ⟨[], by simp [aG], fun b e => by cases e⟩
  | some b =>
   obtain ⟨ho, _, vs, hr, hc⟩ := q6 b rfl
   exact ⟨vs, hr, fun b' e j u hu => by obtain rfl := Ke e; exact ⟨ho.1, hc j u hu⟩⟩
 | false =>
  obtain ⟨q1, _, ad, cap, q3, q4, q5, q6⟩ := h
  refine ⟨q1, ad, cap, q3, q4, q5, ?_, fun b e => (q6 b e).2.2⟩
  cases ad with
  | none => obtain ⟨rfl, _⟩ := q5 rfl; exact ⟨[], by simp [aG], fun b e => by cases e⟩
  | some b =>
   obtain ⟨hs, hrows, _⟩ := q6 b rfl
   obtain ⟨vs, hl, hrep, hcell⟩ := cq.cells (G.ofTop g.top) (bk.flat hrows) rfl
   refine ⟨vs, hrep, fun b' e j u hu => ?_⟩
   obtain rfl := Ke e
   refine ⟨hs fun e => ?_, hcell j u hu⟩
   subst e
   have := (List.getElem?_eq_some_iff.1 hu).1
   rw [hl] at this; simp at this
theorem zB (hi : dh N n0 w0 g0 s a w g) {wr : Bool} {z : Nat} {x : Operand} {xs : List (List AV)} {D : List Nat} (h : uQ s wr z x xs D) :
  eB z xs ∧ (∀ i, i ∈ D → ∃ v, g.own i = some v) ∧ ∃ ad cap, a.eval x = .slice ad xs.length cap ∧ xs.length ≤ cap ∧ (ad = none → xs = [] ∧ cap = 0) ∧
   (∃ olds, aG w (if wr then g else G.ofTop g.top) xs.flatten olds ∧ ∀ b, ad = some b → ∀ j u, olds[j]? = some u → b.spot = none ∧ w.cell? ⟨b.block, b.off + j, none⟩ = some u) ∧
   ∀ b, ad = some b → cap = xs.length ∨ (∃ k, D = [k] ∧ dk s.O k = some (eK wr z xs) ∧ g.own k = some (.slice ad xs.length cap) ∧ mM k w g b (cap * z) ∧ if wr then g.top b.block ≤ b.off else g.top b.block = b.off + xs.length * z) := by
 cases h with
 | nil h =>
  have hr := bA hi.slots x
  rw [h] at hr
  exact ⟨(fun _ h => by cases h), (fun _ h => by cases h), none, 0, hr, Nat.le_refl _, (fun _ => ⟨rfl, rfl⟩), ⟨[], by simp [aG], (fun b e => by cases e)⟩, (fun b e => by cases e)⟩
 | @own k _ h hO =>
  have hr := bA hi.slots x
  rw [h] at hr
  obtain ⟨q1, ad, cap, q2, q3, q4, q5, q6⟩ := Dj hi hO
  refine ⟨q1, fun i hi => ?_, ad, cap, ?_, q3, q4, q5, fun b e => (q6 b e).imp id fun ⟨x, y⟩ => ⟨k, rfl, hO, q2, x, y⟩⟩
  ·
   obtain rfl : i = k := by simpa using hi
   exact ⟨_, q2⟩
  ·
   have : g.own k = some (a.eval x) := hr
   rw [q2] at this; exact (Ke this).symm
theorem ul {t tx ty e : TypeId} {i : TypeInfo} (ht : P.underlying t = some (.slice e)) (hi : P.info? e = some i) (nT : Option Addr) (sLen sCap : Nat) (hle : sLen ≤ sCap) (x : Value) (hs : Src P i.size tx x 0 [] w) :
  (Builtin.append_ #[t, tx] ty #[.slice nT sLen sCap, x]).run P w = .ok (.slice nT sLen sCap) w := by
 rcases hs.kind with ⟨e', hk⟩ | hk <;> cases nT <;> simp [Builtin.append_, run_underlying ht, run_underlying hk, sizeOf, typeInfo, hi, hs.len, hle, hs.cells, storeCells]
theorem dh.newNone (h : dh N n0 w0 g0 s a w g) (wr : Bool) (z : Nat) (D : List Nat) (hD : ∀ i, i ∈ D → ∃ v, g.own i = some v) :
  ∃ g', dh N n0 w0 g0 ⟨s.σ, s.H, (s.n, eK wr z []) :: cd D s.O, s.n + 1⟩ a w g' ∧ g'.own s.n = some (.slice none 0 0) ∧ gC w g w g' := by
 obtain ⟨g', k1, k2, k5⟩ := h.newHdr (v := .slice none 0 0) (K := eK wr z []) (z := z) D hD rfl (fun g' e1 e2 e3 hm => by
  cases wr with
  | true => exact ⟨(fun _ h => by cases h), e2, none, 0, e1, Nat.le_refl _, (fun _ => ⟨rfl, rfl⟩), (fun b hb' => by cases hb')⟩
  | false => exact ⟨(fun _ h => by cases h), e2, none, 0, e1, Nat.le_refl _, (fun _ => ⟨rfl, rfl⟩), (fun b hb' => by cases hb')⟩)
 exact ⟨g', k1, k2, k5⟩
theorem dh.again (h : dh N n0 w0 g0 s a w g) (wr : Bool) {z k : Nat} {xs : List (List AV)} (hO : dk s.O k = some (eK wr z xs)) :
  ∃ g' v, dh N n0 w0 g0 ⟨s.σ, s.H, (s.n, eK wr z xs) :: cd [k] s.O, s.n + 1⟩ a w g' ∧ g.own k = some v ∧ g'.own s.n = some v ∧ gC w g w g' := by
 have hk := h.owns.at hO
 obtain ⟨v, hv⟩ := Kind.own_some hk
 have hD : ∀ i, i ∈ [k] → ∃ v, g.own i = some v := fun i hi => by
  obtain rfl : i = k := by simpa using hi
  exact ⟨v, hv⟩
 cases wr with
 | true =>
  obtain ⟨q1, q2, ad, cap, q3, q4, q5, q6⟩ := hk
  cases ad with
  | none =>
   obtain ⟨rfl, rfl⟩ := q5 rfl
   obtain ⟨g', k1, k2, k5⟩ := h.newNone true z [k] hD
   exact ⟨g', _, k1, q3, k2, k5⟩
  | some b =>
   obtain ⟨g', k1, k2, k5⟩ := h.added true hO q3 (q6 b rfl).1 (q6 b rfl).2.1 (ys := []) (news := []) (fun _ h => by cases h) (by simpa using q4) (by simp [aG])
   rw [List.append_nil] at k1
   exact ⟨g', _, k1, q3, by simpa using k2, k5⟩
 | false =>
  obtain ⟨q1, q2, ad, cap, q3, q4, q5, q6⟩ := hk
  cases ad with
  | none =>
   obtain ⟨rfl, rfl⟩ := q5 rfl
   obtain ⟨g', k1, k2, k5⟩ := h.newNone false z [k] hD
   exact ⟨g', _, k1, q3, k2, k5⟩
  | some b =>
   obtain ⟨p1, p2, p3⟩ := q6 b rfl
   rcases p3 with p3 | ⟨p3, p4⟩
   ·
    obtain ⟨g', k1, k2, k5⟩ := h.newHdr (v := .slice (some b) xs.length cap) (K := eK false z xs) (z := z) [k] hD rfl (fun g' e1 e2 e3 hm =>
     ⟨q1, e2, some b, cap, e1, q4, q5, fun b' e => by
      obtain rfl := Ke e
      exact ⟨p1, by rw [e3]; exact p2, .inl p3⟩⟩)
    exact ⟨g', _, k1, q3, k2, k5⟩
   ·
    obtain ⟨g', k1, k2, k5⟩ := h.added false hO q3 p3 p4 (ys := []) (news := []) (fun _ h => by cases h) (by simpa using q4) (by simp [aG])
    rw [List.append_nil] at k1
    exact ⟨g', _, k1, q3, by simpa using k2, k5⟩
theorem ol.alloc (w : World) (ob : Obj) : ol w (w.drew.alloc ob) ob := ⟨rfl, rfl, rfl, rfl⟩
theorem wb [dI P] (hi : dh N n0 w0 g0 s a w g) {wr : Bool} {z : Nat} {t tx ty e : TypeId} {x y : Operand} {xs ys : List (List AV)} {D : List Nat} {i je : TI} (ht : ti P t = some i) (hk : i.k = .slice e)
  (he : ti P e = some je) (hz : Nat.beq je.size z = true) (hzs : Nat.beq je.zero.length z = true) (hz0 : Nat.blt 0 je.bytes = true) (hb : uQ s wr z x xs D) (hy : xY P s wr z tx y ys) (hw : eB z ys) (h1 : vF ys)
  (hbytes : (xs.length + ys.length) * je.bytes ≤ 140737488355328) :
  ∃ v w' g', (Builtin.append_ #[t, tx] ty #[a.eval x, a.eval y]).run P w = .ok v w' ∧ dh N n0 w0 g0 ⟨s.σ, s.H, (s.n, eK wr z (xs ++ ys)) :: cd D s.O, s.n + 1⟩ a w' g' ∧ g'.own s.n = some v := by
 obtain ⟨_, _, _, h2⟩ := aV ht
 obtain ⟨inf, _, zv, h3⟩ := aV he
 have hu : P.underlying t = some (.slice e) := by rw [h2.und, h2.desc_slice hk]
 simp only [Nat.beq_eq] at hz hzs
 have hz0' : 0 < je.bytes := by simpa using hz0
 have hlen : xs.length + ys.length ≤ 140737488355328 := Nat.le_trans (Nat.le_mul_of_pos_right _ hz0') hbytes
 subst hz
 obtain ⟨news, hsrc, hrn⟩ := zj hi hy hw h1
 obtain ⟨hwx, hD, ad, cap, hv, hcap, hnone, ⟨olds, hro, hcell⟩, hours⟩ := zB hi hb
 rw [hv]
 have hsize : inf.size = je.size := h3.size.symm
 have hnl := hsrc.newsLen
 have qq : olds.length = xs.length * je.size := by rw [hro.length, hwx.flatten_length]
 have hzc : zv.cells.size = je.size := by
  have := h3.zeros
  rw [this] at hzs
  simpa using hzs
 have hwall : eB je.size (xs ++ ys) := fun r hr => by
  rcases List.mem_append.1 hr with hr | hr
  · exact hwx r hr
  · exact hw r hr
 by_cases hfit : xs.length + ys.length ≤ cap
 ·
  by_cases hy0 : ys = []
  ·
   subst hy0
   have hn0 : news = [] := List.eq_nil_of_length_eq_zero (by simpa using hnl)
   subst hn0
   have hrun := ul (P := P) (w := w) (t := t) (tx := tx) (ty := ty) hu h3.info ad xs.length cap hcap (a.eval y) (by rw [hsize]; simpa using hsrc)
   rw [List.append_nil]
   cases hb with
   | nil h =>
    have hr := bA hi.slots x
    rw [h] at hr
    have e1 : a.eval x = .slice none 0 0 := hr
    rw [hv] at e1
    obtain ⟨g', k1, k2, _⟩ := hi.newNone wr je.size [] (fun _ h => by cases h)
    exact ⟨_, w, g', hrun, k1, by rw [k2, ← e1]⟩
   | @own k _ h hO =>
    have hr := bA hi.slots x
    rw [h] at hr
    have e1 : g.own k = some (a.eval x) := hr
    obtain ⟨g', v, k1, k2, k3, _⟩ := hi.again wr hO
    rw [k2] at e1
    refine ⟨_, w, g', hrun, k1, ?_⟩
    rw [k3, e1, hv]
  ·
   have hpos : 0 < ys.length := by cases ys with | nil => exact absurd rfl hy0 | cons _ _ => simp
   cases had : ad with
   | none => obtain ⟨rfl, rfl⟩ := hnone had; exact absurd (by simpa using hfit) hy0
   | some b =>
    subst had
    rcases hours b rfl with h | ⟨k, rfl, q1, q2, q3, q4⟩
    · omega
    ·
     obtain ⟨g', k1, k2, _⟩ := hi.added wr q1 q2 q3 q4 (ys := ys) (news := news) hw hfit hrn
     obtain ⟨bb, off, sp⟩ := b
     obtain ⟨rfl, _, c, e', fr, hc, hcs, hfz⟩ := q3
     simp only at hc hcs hfz
     have hm : (xs.length + ys.length) * je.size ≤ cap * je.size := Nat.mul_le_mul_right _ hfit
     rw [Nat.add_mul] at hm
     have hrun := run_append_room_src (P := P) w t tx ty e inf hu h3.info bb off xs.length cap (a.eval y) ys.length news (by rw [hsize]; exact hsrc) hfit
      (fun j hj => by
       rw [hsize, lr hc]
       have : off + xs.length * je.size + j < c.size := by omega
       simp [this])
      (fun j hj => by rw [hsize]; exact tt hc hfz (by omega))
     rw [hsize] at hrun
     exact ⟨_, _, g', hrun, k1, k2⟩
 ·
  have hnl' : ys.length = ys.length := rfl
  have hold : (Builtin.firstCells inf.size xs.length (.slice ad xs.length cap)).run P w.drew = .ok olds.toArray w.drew := by
   cases had : ad with
   | none =>
    obtain ⟨rfl, rfl⟩ := hnone had
    have : olds = [] := List.eq_nil_of_length_eq_zero (by simpa using qq)
    subst this
    exact run_firstCells_none w.drew _ _ _ _
   | some b =>
    refine run_firstCells_some w.drew inf.size xs.length b xs.length cap olds (by rw [hsize]; exact qq) (fun j u hj => ?_)
    obtain ⟨h1, h2⟩ := hcell b had j u hj
    obtain ⟨bb, off, sp⟩ := b
    simp only at h1 h2; subst h1
    rw [dz]; exact h2
  have hrun := run_append_grow_src (P := P) w t tx ty e inf zv hu h3.info h3.zero ad xs.length cap olds hold (a.eval y) ys.length news (by rw [hsize]; exact hsrc) (by omega) (by omega)
   (by rw [← h3.bytes]; exact growslice_fits (by omega) hbytes)
  let C := grownCap w (xs.length + ys.length) cap e
  have hge : xs.length + ys.length ≤ C := grownCap_ge w _ cap e
  have hG := ol.alloc w (.cells ((olds ++ news).toArray ++ Builtin.zeroCells zv.cells (C - (xs.length + ys.length))) e (0, 0))
  have harr : (olds ++ news).toArray ++ Builtin.zeroCells zv.cells (C - (xs.length + ys.length)) = ((olds ++ news) ++ (Builtin.zeroCells zv.cells (C - (xs.length + ys.length))).toList).toArray := by simp
  rw [harr] at hG hrun
  obtain ⟨g', k1, k2, _⟩ := hi.newRow wr D hD (.inl rfl) hG hwall (by rw [List.length_append]; exact hge)
   (by
    have e1 : (Builtin.zeroCells zv.cells (C - (xs.length + ys.length))).toList.length = (C - (xs.length + ys.length)) * je.size := by
     rw [Array.length_toList, size_zeroCells, hzc]
    rw [e1, List.length_append, qq, hnl, ← Nat.add_mul, ← Nat.add_mul]
    exact Nat.mul_le_mul_right _ (by omega))
   (by rw [List.flatten_append]; exact aG.append hro hrn)
  exact ⟨_, _, g', hrun, k1, by rw [k2, List.length_append]⟩
end
end Go.Pv
