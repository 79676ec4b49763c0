/- The rules for the operations of a region, one behind the other; for new variables, stores, calls; and for a function's body. -/
import Derived.Test.YtngeejjllgnpcaaPvE
import Derived.Laws.CopyRow
namespace Go.Pv
open Go.RowKit (Below)
set_option linter.unusedSimpArgs false
set_option linter.unusedSectionVars false
set_option linter.unusedVariables false

def dOk (N : Nat) : Option Tmp → Bool
  | none => true
  | some t => Nat.blt t N

section
variable {P : Program} {N n0 : Nat} {Q : Post} {s : St} {w0 : World} {g0 : G} {a : Act} {w : World} {g : G}

theorem Inv.put (h : Inv N n0 w0 g0 s a w g) {d : Option Tmp} {v : AV} {val : Value} (hr : Rep w g v val) (hd : dOk N d = true) : Inv N n0 w0 g0 (s.put d v) (a.put d val) w g := by
  cases d with
  | none => exact h
  | some d =>
    have hlt : d < a.tmps.size := by rw [h.size]; simpa [dOk] using hd
    refine { h with size := ?_, slots := fun t => ?_, defers := h.defers }
    · simp [Act.put, h.size]
    · simp only [St.put, lk, Act.put]
      by_cases ht : Nat.beq d t = true
      · have e : d = t := by simpa using ht
        subst e
        rw [if_pos ht]
        simpa [Array.getD_eq_getD_getElem?, hlt] using hr
      · rw [if_neg ht]
        have e : d ≠ t := fun e => ht (by simp [e])
        have := h.slots t
        simpa [Array.getD_eq_getD_getElem?, Array.getElem?_setIfInBounds, e] using this

theorem Inv.putS (h : Inv N n0 w0 g0 s a w g) {d : Tmp} {v : AV} (hr : Rep w g v (a.tmps.getD d undef)) : Inv N n0 w0 g0 (s.put (some d) v) a w g := by
  refine { h with slots := fun t => ?_ }
  simp only [St.put, lk]
  by_cases ht : Nat.beq d t = true
  · have e : d = t := by simpa using ht
    subst e
    rw [if_pos ht]; exact hr
  · rw [if_neg ht]; exact h.slots t

/-! ### regions -/

def aops (P : Program) (N n0 : Nat) (ops : Array Oper) (l : List Oper) (Q : Post) (s : St) : Prop :=
  ∀ w0 g0 a w g, Inv N n0 w0 g0 s a w g → wpList P ops (Q.at N n0 w0 g0) l a w

theorem awp_region {id : Nat} {l : List Oper} (h : aops P N n0 l.toArray l Q s) : awp P N n0 (.region id l.toArray false) Q s :=
  fun w0 g0 a w g hi => wp_region_lit (h w0 g0 a w g hi)

variable {ops : Array Oper} {o : Oper} {rest : List Oper}

theorem aops_nil (h : Q .normal s) : aops P N n0 ops [] Q s := fun _ _ _ _ g hi => ⟨s, g, h, hi⟩

theorem wpList_go (hg : o.guard = none) {K : Exit → Act → World → Prop} (h : o.wp P a w (wpList P ops K rest) K) : wpList P ops K (o :: rest) a w := by
  unfold wpList
  rw [if_pos (by simp [Region.wanted, hg])]
  exact .inl h

theorem wpList_value (hg : o.guard = none) {K : Exit → Act → World → Prop} {v : Value} {w' : World} (hr : (execOp a.eval o).run P w = .ok (.value v) w')
    (h : wpList P ops K rest (a.put o.dst v) w') : wpList P ops K (o :: rest) a w :=
  wpList_go hg (by simp only [Oper.wp, hr, Oper.upon]; exact h)

theorem aops_value {s' : St} (hg : o.guard = none)
    (h : ∀ w0 g0 a w g, Inv N n0 w0 g0 s a w g → ∃ v w' g', (execOp a.eval o).run P w = .ok (.value v) w' ∧ Inv N n0 w0 g0 s' (a.put o.dst v) w' g')
    (k : aops P N n0 ops rest Q s') : aops P N n0 ops (o :: rest) Q s := by
  intro w0 g0 a w g hi
  obtain ⟨v, w', g', hr, hi'⟩ := h w0 g0 a w g hi
  exact wpList_value hg hr (k w0 g0 _ _ _ hi')

theorem aops_skip {s' : St} (hg : o.guard = none) (hd : o.dst = none)
    (h : ∀ w0 g0 a w g, Inv N n0 w0 g0 s a w g → ∃ w' g', (execOp a.eval o).run P w = .ok .skip w' ∧ Inv N n0 w0 g0 s' a w' g')
    (k : aops P N n0 ops rest Q s') : aops P N n0 ops (o :: rest) Q s := by
  intro w0 g0 a w g hi
  obtain ⟨w', g', hr, hi'⟩ := h w0 g0 a w g hi
  refine wpList_go hg ?_
  simp only [Oper.wp, hr, Oper.upon, hd, Act.put]
  exact k w0 g0 _ _ _ hi'

/-- An operation that changes no memory. -/
theorem aops_val [Tab P] {v : AV} (hg : o.guard = none) (hd : dOk N o.dst = true) (hv : opv P s o.op = some v) (k : aops P N n0 ops rest Q (s.put o.dst v)) :
    aops P N n0 ops (o :: rest) Q s :=
  aops_value hg (fun w0 g0 a w g hi => by
    obtain ⟨u, hu, hr⟩ := opv_sound hi hv
    exact ⟨u, w, g, hu, hi.put hr hd⟩) k

/-! ### guards -/

def gslot (ops : Array Oper) (j : Nat) : Option Tmp := (ops[j]?).bind (·.dst)

theorem yielded_of {j d : Nat} (hj : gslot ops j = some d) (hd : Nat.blt d N = true) (hs : a.tmps.size = N) {b : Bool} (hb : a.tmps.getD d undef = .bool b) : yielded ops a.tmps j = some b := by
  have hlt : d < a.tmps.size := by rw [hs]; simpa using hd
  have : a.tmps[d]? = some (.bool b) := by
    rw [Array.getD_eq_getD_getElem?] at hb
    rw [Array.getElem?_eq_getElem hlt] at hb ⊢
    simpa using hb
  unfold gslot at hj
  simp [yielded, hj, this]

theorem yielded_undef {j d : Nat} (hj : gslot ops j = some d) (hd : Nat.blt d N = true) (hs : a.tmps.size = N) (hb : a.tmps.getD d undef = undef) : yielded ops a.tmps j = none := by
  have hlt : d < a.tmps.size := by rw [hs]; simpa using hd
  have : a.tmps[d]? = some undef := by
    rw [Array.getD_eq_getD_getElem?] at hb
    rw [Array.getElem?_eq_getElem hlt] at hb ⊢
    simpa using hb
  unfold gslot at hj
  simp [yielded, hj, this, undef]

theorem wpList_wanted {K : Exit → Act → World → Prop} (hw : Region.wanted o (yielded ops a.tmps) = true) (h : wpList P ops K ({ o with guard := none } :: rest) a w) :
    wpList P ops K (o :: rest) a w := by
  unfold wpList at h ⊢
  rw [if_pos hw]
  rw [if_pos (by simp [Region.wanted])] at h
  exact h

theorem wpList_unwanted {K : Exit → Act → World → Prop} (hw : Region.wanted o (yielded ops a.tmps) = false) (h : wpList P ops K rest (a.put o.dst undef) w) :
    wpList P ops K (o :: rest) a w := by
  unfold wpList
  rw [if_neg (by simp [hw])]
  exact h

theorem rep_undef : Rep w g (.tup []) undef := ⟨[], rfl, rfl⟩

theorem aops_guard_yes {j d : Nat} {want : Bool} (hg : o.guard = some (j, want)) (hj : gslot ops j = some d) (hd : Nat.blt d N = true) (hb : lk s.σ d = .bool want)
    (k : aops P N n0 ops ({ o with guard := none } :: rest) Q s) : aops P N n0 ops (o :: rest) Q s := by
  intro w0 g0 a w g hi
  have hr := hi.slots d
  rw [hb] at hr
  refine wpList_wanted ?_ (k w0 g0 a w g hi)
  simp [Region.wanted, hg, yielded_of hj hd hi.size hr]

theorem aops_guard_no {j d : Nat} {want : Bool} (hg : o.guard = some (j, want)) (hj : gslot ops j = some d) (hd : Nat.blt d N = true) (hb : lk s.σ d = .bool (!want)) (hdst : dOk N o.dst = true)
    (k : aops P N n0 ops rest Q (s.put o.dst (.tup []))) : aops P N n0 ops (o :: rest) Q s := by
  intro w0 g0 a w g hi
  have hr := hi.slots d
  rw [hb] at hr
  refine wpList_unwanted ?_ (k w0 g0 _ w g (hi.put rep_undef hdst))
  simp [Region.wanted, hg, yielded_of hj hd hi.size hr]

theorem aops_guard_undef {j d : Nat} {want : Bool} (hg : o.guard = some (j, want)) (hj : gslot ops j = some d) (hd : Nat.blt d N = true) (hb : lk s.σ d = .tup []) (hdst : dOk N o.dst = true)
    (k : aops P N n0 ops rest Q (s.put o.dst (.tup []))) : aops P N n0 ops (o :: rest) Q s := by
  intro w0 g0 a w g hi
  have hr := hi.slots d
  rw [hb] at hr
  obtain ⟨vs, e, hvs⟩ := hr
  obtain rfl : vs = [] := hvs
  refine wpList_unwanted ?_ (k w0 g0 _ w g (hi.put rep_undef hdst))
  simp [Region.wanted, hg, yielded_undef hj hd hi.size e]

theorem aops_guard {j d : Nat} {want b : Bool} (hg : o.guard = some (j, want)) (hj : gslot ops j = some d) (hd : Nat.blt d N = true) (hb : lk s.σ d = .bool b) (hdst : dOk N o.dst = true)
    (yes : b = want → aops P N n0 ops ({ o with guard := none } :: rest) Q (s.put (some d) (.bool want)))
    (no : b = (!want) → aops P N n0 ops rest Q ((s.put (some d) (.bool !want)).put o.dst (.tup []))) : aops P N n0 ops (o :: rest) Q s := by
  intro w0 g0 a w g hi
  have hr := hi.slots d
  rw [hb] at hr
  by_cases h : b = want
  · refine wpList_wanted ?_ (yes h w0 g0 a w g (hi.putS (by rw [← h]; exact hr)))
    simp [Region.wanted, hg, yielded_of hj hd hi.size hr, h]
  · have h' : b = !want := by cases b <;> cases want <;> simp_all
    refine wpList_unwanted ?_ (no h' w0 g0 _ w g ((hi.putS (by rw [← h']; exact hr)).put rep_undef hdst))
    simp [Region.wanted, hg, yielded_of hj hd hi.size hr, h]

/-! ### new variables -/

def allocH (id off : Nat) : List AV → List (Nat × Nat × AV) → List (Nat × Nat × AV)
  | [], H => H
  | x :: r, H => (id, off, x) :: allocH id (off + 1) r H

theorem lkH_alloc {id : Nat} : ∀ {cs : List AV} {off : Nat} {H : List (Nat × Nat × AV)} (i o : Nat), lkH (allocH id off cs H) i o = if i = id ∧ off ≤ o ∧ o < off + cs.length then cs[o - off]? else lkH H i o
  | [], off, H, i, o => by
    rw [if_neg (by simp only [List.length_nil]; omega)]; rfl
  | x :: r, off, H, i, o => by
    simp only [allocH, lkH, lkH_alloc (cs := r), List.length_cons]
    by_cases h1 : i = id
    · subst h1
      by_cases h2 : o = off
      · subst h2; simp
      · by_cases h3 : off ≤ o ∧ o < off + (r.length + 1)
        · have h4 : off + 1 ≤ o ∧ o < off + 1 + r.length := by omega
          have h5 : o - off = (o - (off + 1)) + 1 := by omega
          have : Nat.beq off o = false := by rw [Bool.eq_false_iff, ne_eq, Nat.beq_eq]; omega
          simp [h3, h4, this, h5]
        · have h4 : ¬ (off + 1 ≤ o ∧ o < off + 1 + r.length) := by omega
          have : Nat.beq off o = false := by rw [Bool.eq_false_iff, ne_eq, Nat.beq_eq]; omega
          simp [h3, h4, this]
    · have : Nat.beq id i = false := by rw [Bool.eq_false_iff, ne_eq, Nat.beq_eq]; omega
      simp [h1, this]

theorem push_get {h : Array Obj} {o : Obj} {k : Nat} (hk : k < h.size) : (h.push o)[k]? = h[k]? := by
  rw [Array.getElem?_push]; simp [Nat.ne_of_lt hk]

theorem push_cell {w : World} {o : Obj} {b p : Nat} (hb : b < w.heap.size) : World.cell? { w with heap := w.heap.push o } ⟨b, p, none⟩ = w.cell? ⟨b, p, none⟩ := by
  simp only [World.cell?, push_get hb]

theorem push_frozen {w : World} {o : Obj} {b p : Nat} (hb : b < w.heap.size) : World.frozen? { w with heap := w.heap.push o } ⟨b, p, none⟩ = w.frozen? ⟨b, p, none⟩ := by
  simp only [World.frozen?, push_get hb]

theorem WF.topLt {n : Nat} (h : WF g w n) {b o : Nat} (ho : o < g.top b) : b < w.heap.size := by
  refine Nat.lt_of_not_le fun hb => ?_
  rw [h.topNew b hb] at ho
  exact Nat.not_lt_zero _ ho

theorem WF.ownerLt {n : Nat} (h : WF g w n) {b i : Nat} (ho : g.owner b = some i) : b < w.heap.size := by
  refine Nat.lt_of_not_le fun hb => ?_
  rw [h.ownNew b hb] at ho
  cases ho

/-- A new local variable. -/
theorem Inv.allocAt (h : Inv N n0 w0 g0 s a w g) {cs : List AV} {vs : List Value} (hr : RepL w g cs vs) (e : TypeId) {k n' : Nat} (hn : g.blk k = none) (hno : g.own k = none) (hk : k < n')
    (hn' : s.n ≤ n') (hk0 : n0 ≤ k) :
    ∃ g', Inv N n0 w0 g0 ⟨s.σ, allocH k 0 cs s.H, s.O, n'⟩ a { w with heap := w.heap.push (.cells vs.toArray e (0, 0)) } g' ∧ g'.blk k = some w.heap.size ∧
      (∀ i, i ≠ k → g'.blk i = g.blk i) ∧ g'.own = g.own ∧ g'.top = g.top ∧ g'.wd = g.wd := by
  let g' : G := { g with blk := fun i => if i = k then some w.heap.size else g.blk i, owner := fun b => if b = w.heap.size then some k else g.owner b }
  let w' : World := { w with heap := w.heap.push (.cells vs.toArray e (0, 0)) }
  have hm : Mono w g w' g' := ⟨⟨fun _ => Nat.le_refl _, fun b o ho => push_cell (h.wf.topLt ho)⟩, fun id b hb => by
    have : id ≠ k := fun e => by rw [e, hn] at hb; cases hb
    simp [g', this, hb], fun _ _ hv => hv, fun _ _ _ => rfl⟩
  refine ⟨g', ?_, by simp [g'], fun i hi => by simp [g', hi], rfl, rfl, rfl⟩
  exact {
    defers := h.defers
    size := h.size
    slots := fun t => (h.slots t).mono _ _ hm
    cells := fun id off x hx => by
      rw [lkH_alloc] at hx
      split at hx
      · rename_i hc
        obtain ⟨hid, _, hlt⟩ := hc
        subst hid
        simp only [Nat.sub_zero] at hx
        obtain ⟨v, hv, rv⟩ := hr.get hx
        exact ⟨w.heap.size, vs.toArray, e, by simp [g'], by simp, v, by simpa using hv, rv.mono _ _ hm⟩
      · obtain ⟨b, c, e', hb, hw, v, hv, rv⟩ := h.cells id off x hx
        exact ⟨b, c, e', hm.blk _ _ hb, by rw [show w'.heap[b]? = w.heap[b]? from push_get (h.wf.blkOwner _ _ hb).2.1]; exact hw, v, hv, rv.mono _ _ hm⟩
    owns := fun id K hx => by
      refine Kind.keep (h.owns.at hx) ⟨hm, fun b hb => ?_, fun b hb => ?_⟩
      · have hlt := h.wf.ownerLt hb
        exact ⟨push_get hlt, by simp [g', Nat.ne_of_lt hlt, hb], rfl⟩
      · simp only [g'] at hb
        split at hb
        · obtain rfl := Option.some.inj hb
          obtain ⟨v, hv⟩ := Kind.own_some (h.owns.at hx)
          rw [hno] at hv; cases hv
        · exact hb
    wf := {
      topNew := fun b hb => h.wf.topNew b (by simp at hb; omega)
      ownNew := fun b hb => by
        have hb' : w.heap.size + 1 ≤ b := by simpa using hb
        have : b ≠ w.heap.size := by omega
        simp [g', this, h.wf.ownNew b (by omega)]
      blkOwner := fun id b hb => by
        simp only [g'] at hb ⊢
        split at hb
        · rename_i hid
          obtain rfl := Option.some.inj hb
          exact ⟨by simp [hid], by simp, h.wf.topNew _ (Nat.le_refl _), by omega⟩
        · obtain ⟨k1, k2, k3, k4⟩ := h.wf.blkOwner id b hb
          exact ⟨by simp [Nat.ne_of_lt k2, k1], by simp; omega, k3, by omega⟩
      ownLt := fun id v hv => Nat.lt_of_lt_of_le (h.wf.ownLt id v hv) hn'
      ownSl := h.wf.ownSl
      sep := fun id b hb => by
        simp only [g'] at hb ⊢
        split at hb
        · rename_i hid; rw [hid]; exact hno
        · exact h.wf.sep id b hb
      idLt := fun b i hb => by
        simp only [g'] at hb
        split at hb
        · obtain rfl := Option.some.inj hb; exact hk
        · exact Nat.lt_of_lt_of_le (h.wf.idLt b i hb) hn' }
    frame := {
      os := h.frame.os
      tape := h.frame.tape
      output := h.frame.output
      size := by simp; exact Nat.le_succ_of_le h.frame.size
      block := fun b hb ho => (push_get (Nat.lt_of_lt_of_le hb h.frame.size)).trans (h.frame.block b hb ho)
      foreign := fun b hb ho => by
        obtain ⟨k1, k2⟩ := h.frame.foreign b hb ho
        have : b ≠ w.heap.size := Nat.ne_of_lt (Nat.lt_of_lt_of_le hb h.frame.size)
        exact ⟨by simp [g', this, k1], k2⟩
      top := h.frame.top
      stable := fun b o ho => (push_cell (h.wf.topLt (Nat.lt_of_lt_of_le ho (h.frame.top b)))).trans (h.frame.stable b o ho)
      blk := fun id hid => by
        have : id ≠ k := Nat.ne_of_lt (Nat.lt_of_lt_of_le hid hk0)
        simp [g', this, h.frame.blk id hid]
      own := fun id hid => h.frame.own id hid
      wd := h.frame.wd }
    nle := Nat.le_trans h.nle hn' }

theorem Inv.alloc (h : Inv N n0 w0 g0 s a w g) {cs : List AV} {vs : List Value} (hr : RepL w g cs vs) (e : TypeId) :
    ∃ g', Inv N n0 w0 g0 ⟨s.σ, allocH s.n 0 cs s.H, s.O, s.n + 1⟩ a { w with heap := w.heap.push (.cells vs.toArray e (0, 0)) } g' ∧ g'.blk s.n = some w.heap.size := by
  have hn : g.blk s.n = none := by
    cases hb : g.blk s.n with
    | none => rfl
    | some b => exact absurd (h.wf.blkOwner _ _ hb).2.2.2 (Nat.lt_irrefl _)
  have hno : g.own s.n = none := by
    cases hb : g.own s.n with
    | none => rfl
    | some b => exact absurd (h.wf.ownLt _ _ hb) (Nat.lt_irrefl _)
  obtain ⟨g', h1, h2, _⟩ := h.allocAt hr e hn hno (Nat.lt_succ_self _) (Nat.le_succ _) h.nle
  exact ⟨g', h1, h2⟩

theorem aops_alloc [Tab P] {t : TypeId} {i : TI} (hg : o.guard = none) (hop : o.op = .alloc t) (hd : dOk N o.dst = true) (ht : ti P t = some i)
    (k : aops P N n0 ops rest Q (St.put ⟨s.σ, allocH s.n 0 i.zero s.H, s.O, s.n + 1⟩ o.dst (.ptr s.n 0))) : aops P N n0 ops (o :: rest) Q s := by
  refine aops_value hg (fun w0 g0 a w g hi => ?_) k
  obtain ⟨inf, d, z, h1⟩ := ti_tells ht
  have hz : RepL w g i.zero z.cells.toList := by
    rw [h1.zeros]
    generalize z.cells.toList = l
    induction l with
    | nil => rfl
    | cons v l ih => exact ⟨v, l, rfl, rep_const v, ih⟩
  obtain ⟨g', hi', hb⟩ := hi.alloc hz t
  have hrun : (Instr.alloc t true (.tuple #[])).run P w = .ok (.pointer (some ⟨w.heap.size, 0, none⟩)) { w with heap := w.heap.push (.cells z.cells.toList.toArray t (0, 0)) } := by
    simp [Instr.alloc, h1.run_zero, newVar, newRow]
  refine ⟨.pointer (some ⟨w.heap.size, 0, none⟩), _, g', ?_, hi'.put ⟨_, hb, rfl⟩ hd⟩
  obtain ⟨dst, op, type, pos, after, guard⟩ := o
  subst hop
  exact run_valueW hrun

theorem aops_box [Tab P] {t : TypeId} {x : Operand} {cs : List AV} (hg : o.guard = none) (hop : o.op = .box t x) (hd : dOk N o.dst = true) (hc : cellsv (ev s.σ x) = some cs)
    (k : aops P N n0 ops rest Q (St.put ⟨s.σ, allocH s.n 0 cs s.H, s.O, s.n + 1⟩ o.dst (.ptr s.n 0))) : aops P N n0 ops (o :: rest) Q s := by
  refine aops_value hg (fun w0 g0 a w g hi => ?_) k
  have hz := cellsv_sound hc (rep_ev hi.slots x) hi.wf.ownSl
  obtain ⟨g', hi', hb⟩ := hi.alloc hz t
  have hrun : (Instr.box t (a.eval x)).run P w = .ok (.pointer (some ⟨w.heap.size, 0, none⟩)) { w with heap := w.heap.push (.cells (a.eval x).cells.toList.toArray t (0, 0)) } := by
    simp [Instr.box, newVar, newRow]
  refine ⟨.pointer (some ⟨w.heap.size, 0, none⟩), _, g', ?_, hi'.put ⟨_, hb, rfl⟩ hd⟩
  obtain ⟨dst, op, type, pos, after, guard⟩ := o
  subst hop
  exact run_valueW hrun

/-! ### a store into a local variable -/

def AV.one : AV → Bool
  | .agg _ | .tup _ | .any => false
  | .raw v => v.oneCell'
  | _ => true

theorem one_of {x : AV} {v : Value} (hs : ∀ id v, g.own id = some v → v.oneCell' = true) (hx : Rep w g x v) (h : x.one = true) : v.oneCell' = true := by
  cases x <;> simp only [AV.one] at h <;> first | (cases h; done) | skip
  case bool b => obtain rfl : v = _ := hx; rfl
  case int k n => obtain rfl : v = _ := hx; rfl
  case str k => obtain rfl : v = _ := hx; rfl
  case nilp => obtain rfl : v = _ := hx; rfl
  case nilS => obtain rfl : v = _ := hx; rfl
  case nilM => obtain rfl : v = _ := hx; rfl
  case ptr id off => obtain ⟨b, hb, rfl⟩ := hx; rfl
  case rd c => obtain ⟨b, o, rfl, hr⟩ := hx; rfl
  case sl c => obtain ⟨a, cap, rfl, hr⟩ := hx; rfl
  case nilI => obtain rfl : v = _ := hx; rfl
  case iface t y => obtain ⟨z, rfl, hr⟩ := hx; rfl
  case nilF => obtain rfl : v = _ := hx; rfl
  case fn f c => obtain ⟨vs, rfl, hr⟩ := hx; rfl
  case own id => exact hs id v hx
  case raw u => obtain rfl : v = _ := hx; exact h
  case eptr id r c => obtain ⟨ad, l, cap, e, rfl⟩ := hx; rfl

theorem RepL.ones (hs : ∀ id v, g.own id = some v → v.oneCell' = true) : ∀ {cs : List AV} {vs : List Value}, RepL w g cs vs → cs.all AV.one = true → ∀ v ∈ vs, v.oneCell' = true
  | [], _, h, _ => by simp [RepL] at h; simp [h]
  | x :: cs, _, ⟨v, vs', e, r, rest⟩, h => by
    subst e
    simp only [List.all_cons, Bool.and_eq_true] at h
    intro u hu
    rcases List.mem_cons.1 hu with rfl | hu
    · exact one_of hs r h.1
    · exact RepL.ones (cs := cs) (vs := vs') hs rest h.2 u hu

theorem list_seg_get (l vs : List Value) (k j : Nat) (hk : k + vs.length ≤ l.length) :
    (l.take k ++ vs ++ l.drop (k + vs.length))[j]? = if k ≤ j ∧ j < k + vs.length then vs[j - k]? else l[j]? := by
  by_cases h1 : j < k
  · rw [if_neg (by omega), List.append_assoc, List.getElem?_append_left (by simp; omega), List.getElem?_take, if_pos h1]
  · by_cases h2 : j < k + vs.length
    · rw [if_pos ⟨by omega, h2⟩, List.getElem?_append_left (by simp; omega), List.getElem?_append_right (by simp; omega)]
      congr 1
      simp; omega
    · rw [if_neg (by omega), List.getElem?_append_right (by simp; omega), List.getElem?_drop]
      congr 1
      simp; omega

theorem setRow_cell_other {w : World} {b c o : Nat} {cs : Array Value} (h : b ≠ c) : (w.setRow c cs).cell? ⟨b, o, none⟩ = w.cell? ⟨b, o, none⟩ := by
  simp only [World.cell?, setRow_other w c b cs h]

theorem setRow_frozen_other {w : World} {b c o : Nat} {cs : Array Value} (h : b ≠ c) : (w.setRow c cs).frozen? ⟨b, o, none⟩ = w.frozen? ⟨b, o, none⟩ := by
  simp only [World.frozen?, setRow_other w c b cs h]

theorem setRow_size {w : World} {c : Nat} {cs : Array Value} : (w.setRow c cs).heap.size = w.heap.size := by simp [World.setRow]

theorem Inv.store (h : Inv N n0 w0 g0 s a w g) {id off b : Nat} {cs old : List AV} {vs : List Value} (hb : g.blk id = some b) (hr : RepL w g cs vs) (hold : lkN s.H id off cs.length = some old)
    (hne : cs ≠ []) : ∃ cur e, w.heap[b]? = some (.cells cur e (0, 0)) ∧ off + vs.length ≤ cur.size ∧
      Inv N n0 w0 g0 ⟨s.σ, allocH id off cs s.H, s.O, s.n⟩ a (w.setRow b (cur.toList.take off ++ vs ++ cur.toList.drop (off + vs.length)).toArray) g := by
  have hlen := hr.length
  obtain ⟨us, hul, _, hcell⟩ := h.cells.cellsN hb hold
  obtain ⟨x, cs', rfl⟩ : ∃ x cs', cs = x :: cs' := by cases cs with | nil => exact absurd rfl hne | cons x cs' => exact ⟨x, cs', rfl⟩
  have h0 : ∃ y, lkH s.H id off = some y := by
    simp only [List.length_cons, lkN] at hold
    cases hx : lkH s.H id off with
    | none => simp [hx] at hold
    | some y => exact ⟨y, rfl⟩
  obtain ⟨y, hy⟩ := h0
  obtain ⟨b', cur, e, hb', hw, _⟩ := h.cells id off y hy
  obtain rfl : b' = b := by rw [hb] at hb'; exact (Option.some.inj hb').symm
  have hbound : off + vs.length ≤ cur.size := by
    have hl : 0 < us.length := by rw [hul]; simp
    have := hcell (us.length - 1) _ (List.getElem?_eq_getElem (by omega))
    simp only [World.cell?, hw] at this
    have h2 : off + (us.length - 1) < cur.size := by
      refine Nat.lt_of_not_le fun hle => ?_
      simp [Array.getElem?_eq_none hle] at this
    rw [hlen, ← hul]; omega
  refine ⟨cur, e, hw, hbound, ?_⟩
  obtain ⟨ho, hbs, ht0, hidn⟩ := h.wf.blkOwner id b' hb
  let row := (cur.toList.take off ++ vs ++ cur.toList.drop (off + vs.length)).toArray
  have hm : Mono w g (w.setRow b' row) g := ⟨⟨fun _ => Nat.le_refl _, fun b o hlt => setRow_cell_other (fun e => by subst e; omega)⟩, fun _ _ h => h, fun _ _ h => h, fun _ _ _ => rfl⟩
  have hother : ∀ i c, g.blk i = some c → i ≠ id → c ≠ b' := fun i c hc hi e => by
    subst e
    have := (h.wf.blkOwner i c hc).1
    rw [ho] at this
    exact hi (Option.some.inj this).symm
  exact {
    defers := h.defers
    size := h.size
    slots := fun t => (h.slots t).mono _ _ hm
    cells := fun i p z hz => by
      rw [lkH_alloc] at hz
      split at hz
      · rename_i hc
        obtain ⟨hid, h1, h2⟩ := hc
        subst hid
        obtain ⟨v, hv, rv⟩ := hr.get hz
        refine ⟨b', row, e, hb, setRow_heap w b' cur row e _ hw, v, ?_, rv.mono _ _ hm⟩
        show row[p]? = some v
        simp only [row, List.getElem?_toArray]
        rw [list_seg_get _ _ _ _ (by simpa using hbound), if_pos ⟨h1, by rw [hlen]; exact h2⟩]
        exact hv
      · rename_i hc
        obtain ⟨c, ar, e', hcb, hcw, v, hv, rv⟩ := h.cells i p z hz
        by_cases hi : i = id
        · subst hi
          obtain rfl : c = b' := by rw [hb] at hcb; exact (Option.some.inj hcb).symm
          rw [hw] at hcw
          obtain ⟨rfl, rfl, _⟩ : cur = ar ∧ e = e' ∧ True := by
            have := Option.some.inj hcw
            injection this with h1 h2 h3
            exact ⟨h1, h2, trivial⟩
          refine ⟨c, row, e, hb, setRow_heap w c cur row e _ hw, v, ?_, rv.mono _ _ hm⟩
          show row[p]? = some v
          simp only [row, List.getElem?_toArray]
          rw [list_seg_get _ _ _ _ (by simpa using hbound), if_neg (by rw [hlen]; exact fun hh => hc ⟨rfl, hh⟩)]
          simpa using hv
        · exact ⟨c, ar, e', hcb, by rw [setRow_other _ _ _ _ (hother i c hcb hi)]; exact hcw, v, hv, rv.mono _ _ hm⟩
    owns := fun i K hx => by
      refine Kind.keep (h.owns.at hx) ⟨hm, fun c hc => ⟨setRow_other _ _ _ _ fun e => ?_, hc, rfl⟩, fun c hc => hc⟩
      subst e
      rw [ho] at hc
      obtain rfl := Option.some.inj hc
      obtain ⟨v, hv⟩ := Kind.own_some (h.owns.at hx)
      rw [h.wf.sep _ _ hb] at hv; cases hv
    wf := {
      topNew := fun b hb => h.wf.topNew b (by rwa [setRow_size] at hb)
      ownNew := fun b hb => h.wf.ownNew b (by rwa [setRow_size] at hb)
      blkOwner := fun i b hb => by
        obtain ⟨k1, k2, k3, k4⟩ := h.wf.blkOwner i b hb
        exact ⟨k1, by rw [setRow_size]; exact k2, k3, k4⟩
      ownLt := h.wf.ownLt
      ownSl := h.wf.ownSl
      sep := h.wf.sep
      idLt := h.wf.idLt }
    frame := {
      os := h.frame.os
      tape := h.frame.tape
      output := h.frame.output
      size := by rw [setRow_size]; exact h.frame.size
      block := fun c hc hco => by
        have hne : c ≠ b' := fun e => by
          subst e
          rw [(h.frame.foreign c hc hco).1] at ho
          cases ho
        rw [setRow_other _ _ _ _ hne]
        exact h.frame.block c hc hco
      foreign := h.frame.foreign
      top := h.frame.top
      stable := fun c p hp => by
        have hne : c ≠ b' := fun e => by
          subst e
          have := h.frame.top c
          omega
        rw [setRow_cell_other hne]
        exact h.frame.stable c p hp
      blk := h.frame.blk
      own := h.frame.own
      wd := h.frame.wd }
    nle := h.nle }

theorem aops_store [Tab P] {t : TypeId} {x y : Operand} {i : TI} {id off : Nat} {cs old : List AV} (hg : o.guard = none) (hop : o.op = .store t x y) (hd : o.dst = none) (ht : ti P t = some i)
    (hx : ev s.σ x = .ptr id off) (hc : cellsv (ev s.σ y) = some cs) (hsz : Nat.beq cs.length i.size = true) (h1 : cs.all AV.one = true) (hold : lkN s.H id off cs.length = some old) (hne : cs.isEmpty = false)
    (k : aops P N n0 ops rest Q ⟨s.σ, allocH id off cs s.H, s.O, s.n⟩) : aops P N n0 ops (o :: rest) Q s := by
  refine aops_skip hg hd (fun w0 g0 a w g hi => ?_) k
  obtain ⟨inf, d, z, h2⟩ := ti_tells ht
  have hz := cellsv_sound hc (rep_ev hi.slots y) hi.wf.ownSl
  have hp := rep_ev hi.slots x
  rw [hx] at hp
  obtain ⟨b, hb, hpe⟩ := hp
  obtain ⟨cur, e, hw, hbound, hi'⟩ := hi.store hb hz hold (by intro e; simp [e] at hne)
  refine ⟨_, g, ?_, hi'⟩
  obtain ⟨dst, op, type, pos, after, guard⟩ := o
  subst hop
  have hst := run_storeCells_at P b off e (a.eval y).cells.toList 0 cur w hw (by simpa using hbound) (RepL.ones hi.wf.ownSl hz h1)
  have hlen : (a.eval y).cells.size = i.size := by
    have := hz.length
    simp only [Nat.beq_eq] at hsz
    simpa [hsz] using this
  simp only [Nat.add_zero] at hst
  simp [execOp, Instr.storeAt, hpe, Instr.sureAddr, storeVar, hlen, h2.run_size, hst]

end
end Go.Pv
