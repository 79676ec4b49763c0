/- Rows: made, sliced, added to; texts and rows of bytes. -/
import Derived.Test.YtngeejjllgnpcaaPvV
import Derived.Deep.AppendSrc
namespace Go.Pv
open Go.RowKit (Below)
set_option linter.unusedSimpArgs false
set_option linter.unusedSectionVars false
set_option linter.unusedVariables false

section
variable {P : Program} {N n0 : Nat} {Q : Post} {s : St} {w0 : World} {g0 : G} {a : Act} {w : World} {g : G} {ops : Array Oper} {o : Oper} {rest : List Oper}

/-- Things D give way to others (O'); all else stands. -/
theorem Inv.turn (h : Inv N n0 w0 g0 s a w g) {w' : World} {g' : G} {n' : Nat} {O' : List (Nat × Kind)} (D : List Nat) (hos : w'.os = w.os) (htp : w'.tape = w.tape) (hout : w'.output = w.output) (hsz : w.heap.size ≤ w'.heap.size)
    (hst : ∀ b o, o < g.top b → w'.cell? ⟨b, o, none⟩ = w.cell? ⟨b, o, none⟩) (htop : ∀ b, g.top b ≤ g'.top b)
    (hblk : ∀ b, b < w.heap.size → (∀ i, i ∈ D → g.owner b ≠ some i) → w'.heap[b]? = w.heap[b]? ∧ g'.owner b = g.owner b ∧ g'.top b = g.top b)
    (hconv : ∀ b j, j < s.n → j ∉ D → g'.owner b = some j → g.owner b = some j)
    (hid : ∀ i, i < s.n → g'.blk i = g.blk i ∧ g'.own i = g.own i ∧ g'.wd i = g.wd i)
    (hD : ∀ i, i ∈ D → ∃ v, g.own i = some v) (hwf : WF g' w' n') (hn : s.n ≤ n') (hO : RelO O' w' g') :
    Inv N n0 w0 g0 ⟨s.σ, s.H, O' ++ dropO D s.O, n'⟩ a w' g' := by
  have hm : Mono w g w' g' := ⟨⟨htop, hst⟩, fun id b hb => by rw [(hid id (h.wf.blkOwner id b hb).2.2.2).1]; exact hb, fun id v hv => by rw [(hid id (h.wf.ownLt id v hv)).2.1]; exact hv,
    fun id v hv => (hid id (h.wf.ownLt id v hv)).2.2⟩
  have hidx : ∀ {D : List Nat} {i : Nat}, idx D i = none → i ∉ D := by
    intro D
    induction D with
    | nil => intro i _ h; cases h
    | cons x D ih =>
      intro i h hm
      simp only [idx] at h
      split at h
      · cases h
      · rename_i hx
        cases hr : idx D i with
        | none =>
          rcases List.mem_cons.1 hm with rfl | hm
          · simp at hx
          · exact ih hr hm
        | some j => simp [hr] at h
  exact {
    defers := h.defers
    size := h.size
    slots := fun t => (h.slots t).mono _ _ hm
    cells := fun i p x hx => by
      obtain ⟨b, c, e, hb, hw, v, hv, r⟩ := h.cells i p x hx
      obtain ⟨k1, k2, _, _⟩ := h.wf.blkOwner i b hb
      have := hblk b k2 (fun j hj e => by
        rw [k1] at e
        obtain rfl := Option.some.inj e
        obtain ⟨u, hu⟩ := hD _ hj
        rw [h.wf.sep _ _ hb] at hu; cases hu)
      exact ⟨b, c, e, hm.blk _ _ hb, by rw [this.1]; exact hw, v, hv, r.mono _ _ hm⟩
    owns := fun i K hx => by
      rcases lkO_append hx with hx | hx
      · exact hO.at hx
      · obtain ⟨hx, hi⟩ := lkO_dropO hx
        have hni := hidx hi
        have hk := h.owns.at hx
        obtain ⟨v, hv⟩ := Kind.own_some hk
        refine Kind.keep hk ⟨hm, fun b hb => ?_, fun b hb => hconv b i (h.wf.ownLt i v hv) hni hb⟩
        have := hblk b (h.wf.ownerLt hb) (fun j hj e => by
          rw [hb] at e
          obtain rfl := Option.some.inj e
          exact hni hj)
        exact ⟨this.1, by rw [this.2.1]; exact hb, this.2.2⟩
    wf := hwf
    frame := {
      os := hos.trans h.frame.os
      tape := htp.trans h.frame.tape
      output := hout.trans h.frame.output
      size := Nat.le_trans h.frame.size hsz
      block := fun b hb ho => by
        have h1 := (h.frame.foreign b hb ho).1
        rw [(hblk b (Nat.lt_of_lt_of_le hb h.frame.size) (fun j _ e => by rw [h1] at e; cases e)).1]
        exact h.frame.block b hb ho
      foreign := fun b hb ho => by
        have h1 := h.frame.foreign b hb ho
        have := hblk b (Nat.lt_of_lt_of_le hb h.frame.size) (fun j _ e => by rw [h1.1] at e; cases e)
        exact ⟨by rw [this.2.1]; exact h1.1, by rw [this.2.2]; exact h1.2⟩
      top := fun b => Nat.le_trans (h.frame.top b) (htop b)
      stable := fun b o ho => (hst b o (Nat.lt_of_lt_of_le ho (h.frame.top b))).trans (h.frame.stable b o ho)
      blk := fun id hi => by rw [(hid id (Nat.lt_of_lt_of_le hi h.nle)).1]; exact h.frame.blk id hi
      own := fun id hi => by rw [(hid id (Nat.lt_of_lt_of_le hi h.nle)).2.1]; exact h.frame.own id hi
      wd := fun id hi => by rw [(hid id (Nat.lt_of_lt_of_le hi h.nle)).2.2]; exact h.frame.wd id hi }
    nle := Nat.le_trans h.nle hn }

/-! ### a new row -/

def G.newOwn (g : G) (n : Nat) (v : Value) (z : Nat) (b : Option Nat) (top : Nat) : G where
  blk := g.blk
  own i := if i = n then some v else g.own i
  wd i := if i = n then z else g.wd i
  owner c := if b = some c then some n else g.owner c
  top c := if b = some c then top else g.top c

theorem WF.fresh (h : WF g w s.n) : g.blk s.n = none ∧ g.own s.n = none := by
  constructor
  · cases hb : g.blk s.n with
    | none => rfl
    | some b => exact absurd (h.blkOwner _ _ hb).2.2.2 (Nat.lt_irrefl _)
  · cases hb : g.own s.n with
    | none => rfl
    | some b => exact absurd (h.ownLt _ _ hb) (Nat.lt_irrefl _)

/-- Which of both kinds of rows: one that stands still where it is, or one that may be written. -/
def mkRow (wr : Bool) (z : Nat) (xs : List (List AV)) : Kind := if wr then .wr z xs else .row z xs

/-- A world with one object more, drawn or not. -/
structure Grown (w w' : World) (ob : Obj) : Prop where
  heap : w'.heap = w.heap.push ob
  os : w'.os = w.os
  tape : w'.tape = w.tape
  output : w'.output = w.output

theorem Grown.old {w' : World} {ob : Obj} (h : Grown w w' ob) {b : Nat} (hb : b < w.heap.size) : w'.heap[b]? = w.heap[b]? := by rw [h.heap]; exact push_get hb

/-- A new block with a row in it, behind the row i that it goes on from (if any). -/
theorem Inv.newRow (h : Inv N n0 w0 g0 s a w g) {w' : World} {xs : List (List AV)} {vs rest : List Value} {e : TypeId} {z cap : Nat} (wr : Bool) (D : List Nat) (hD : ∀ i, i ∈ D → ∃ v, g.own i = some v)
    {fr : Nat × Nat} (hfr : fr = (0, 0) ∨ vs.length + rest.length ≤ fr.1) (hG : Grown w w' (.cells (vs ++ rest).toArray e fr)) (hw : Wide z xs) (hc : xs.length ≤ cap) (hsz : cap * z ≤ vs.length + rest.length)
    (hr : RepL w (if wr then g else G.ofTop g.top) xs.flatten vs) :
    ∃ g', Inv N n0 w0 g0 ⟨s.σ, s.H, (s.n, mkRow wr z xs) :: dropO D s.O, s.n + 1⟩ a w' g' ∧ g'.own s.n = some (.slice (some ⟨w.heap.size, 0, none⟩) xs.length cap) ∧ Mono w g w' g' := by
  let v : Value := .slice (some ⟨w.heap.size, 0, none⟩) xs.length cap
  let g' : G := g.newOwn s.n v z (some w.heap.size) (if wr then 0 else xs.length * z)
  obtain ⟨hnb, hno⟩ := h.wf.fresh
  have hne : ∀ b, b < w.heap.size → ¬ (w.heap.size = b) := fun b hb e => by omega
  have hob : w'.heap[w.heap.size]? = some (.cells (vs ++ rest).toArray e fr) := by rw [hG.heap]; simp
  have hsize : w'.heap.size = w.heap.size + 1 := by rw [hG.heap]; simp
  have hcell : ∀ b o, o < g.top b → w'.cell? ⟨b, o, none⟩ = w.cell? ⟨b, o, none⟩ := fun b o ho => cell_of_heap (hG.old (h.wf.topLt ho))
  have htop : ∀ b, g.top b ≤ g'.top b := fun b => by
    simp only [g', G.newOwn]
    split
    · rename_i hb
      obtain rfl := Option.some.inj hb
      rw [h.wf.topNew _ (Nat.le_refl _)]; exact Nat.zero_le _
    · exact Nat.le_refl _
  have hm : Mono w g w' g' := ⟨⟨htop, hcell⟩, fun _ _ e => e, fun id u hu => by
    have : id ≠ s.n := fun e => by rw [e, hno] at hu; cases hu
    simp [g', G.newOwn, this, hu], fun id u hu => by
    have : id ≠ s.n := fun e => by rw [e, hno] at hu; cases hu
    simp [g', G.newOwn, this]⟩
  have hlen : vs.length = xs.length * z := by rw [hr.length, hw.flatten_length]
  have hours : Ours s.n w' g' ⟨w.heap.size, 0, none⟩ (cap * z) := by
    refine ⟨rfl, by simp [g', G.newOwn], _, _, _, hob, by simp; omega, ?_⟩
    rw [List.size_toArray, List.length_append]; exact hfr
  have hvs : ∀ j u, vs[j]? = some u → w'.cell? ⟨w.heap.size, 0 + j, none⟩ = some u := fun j u hu => by
    have hj := (List.getElem?_eq_some_iff.1 hu).1
    simp only [World.cell?, hob, Nat.zero_add]
    simp [List.getElem?_append_left hj, hu]
  have hK : (mkRow wr z xs).holds s.n w' g' := by
    cases wr with
    | true =>
      refine ⟨hw, by simp [g', G.newOwn], some ⟨w.heap.size, 0, none⟩, cap, by simp [g', G.newOwn, v], hc, (fun e => by cases e), fun ad e => ?_⟩
      obtain rfl := Option.some.inj e
      exact ⟨hours, by simp [g', G.newOwn], vs, RepL.mono _ _ hm hr, hvs⟩
    | false =>
      refine ⟨hw, by simp [g', G.newOwn], some ⟨w.heap.size, 0, none⟩, cap, by simp [g', G.newOwn, v], hc, (fun e => by cases e), fun ad e => ?_⟩
      obtain rfl := Option.some.inj e
      refine ⟨fun _ => rfl, ?_, .inr ⟨hours, by simp [g', G.newOwn]⟩⟩
      refine RepRows.of_flat (repAt_of (RepL.mono _ _ (MonoT.ofTop hm.t) hr) fun j u hu => ⟨hvs j u hu, ?_⟩)
      have hj := (List.getElem?_eq_some_iff.1 hu).1
      simp only [g', G.newOwn, if_true, Nat.zero_add]
      simp; omega
  refine ⟨g', ?_, by simp [g', G.newOwn, v], hm⟩
  have := h.turn (w' := w') (g' := g') (n' := s.n + 1) (O' := [(s.n, mkRow wr z xs)]) D hG.os hG.tape hG.output (by omega) hcell htop
    (fun b hb _ => by refine ⟨hG.old hb, ?_, ?_⟩ <;> simp [g', G.newOwn, hne b hb])
    (fun b j hj _ hb => by
      simp only [g', G.newOwn] at hb
      split at hb
      · obtain rfl := Option.some.inj hb; omega
      · exact hb)
    (fun i hi => by
      have : i ≠ s.n := by omega
      simp [g', G.newOwn, this])
    hD
    { topNew := fun b hb => by
        have h1 : ¬ (w.heap.size = b) := by omega
        simp only [g', G.newOwn, Option.some.injEq, h1, if_false]
        exact h.wf.topNew b (by omega)
      ownNew := fun b hb => by
        have h1 : ¬ (w.heap.size = b) := by omega
        simp only [g', G.newOwn, Option.some.injEq, h1, if_false]
        exact h.wf.ownNew b (by omega)
      blkOwner := fun id b hb => by
        obtain ⟨k1, k2, k3, k4⟩ := h.wf.blkOwner id b hb
        simp only [g', G.newOwn, Option.some.injEq, hne b k2, if_false]
        exact ⟨k1, by omega, k3, by omega⟩
      ownLt := fun id u hu => by
        simp only [g', G.newOwn] at hu
        split at hu
        · omega
        · have := h.wf.ownLt id u hu; omega
      ownSl := fun id u hu => by
        simp only [g', G.newOwn] at hu
        split at hu
        · obtain rfl := Option.some.inj hu; rfl
        · exact h.wf.ownSl id u hu
      sep := fun id b hb => by
        have hb' : g.blk id = some b := hb
        have : id ≠ s.n := fun e => by rw [e, hnb] at hb'; cases hb'
        simp only [g', G.newOwn, this, if_false]
        exact h.wf.sep id b hb'
      idLt := fun b i hb => by
        simp only [g', G.newOwn] at hb
        split at hb
        · obtain rfl := Option.some.inj hb; omega
        · have := h.wf.idLt b i hb; omega }
    (Nat.le_succ _)
    (fun i K hx => by
      simp only [lkO] at hx
      split at hx
      · rename_i hi
        have hi' : s.n = i := by simpa using hi
        subst hi'
        obtain rfl := Option.some.inj hx
        exact hK
      · cases hx)
  exact this

/-- A new number for a row that lies elsewhere, or for none. -/
theorem Inv.newHdr (h : Inv N n0 w0 g0 s a w g) {v : Value} {K : Kind} {z : Nat} (D : List Nat) (hD : ∀ i, i ∈ D → ∃ v, g.own i = some v) (hv1 : v.oneCell' = true)
    (hK : ∀ g' : G, g'.own s.n = some v → g'.wd s.n = z → g'.top = g.top → Mono w g w g' → K.holds s.n w g') :
    ∃ g', Inv N n0 w0 g0 ⟨s.σ, s.H, (s.n, K) :: dropO D s.O, s.n + 1⟩ a w g' ∧ g'.own s.n = some v ∧ Mono w g w g' := by
  let g' : G := g.newOwn s.n v z none 0
  obtain ⟨hnb, hno⟩ := h.wf.fresh
  have hm : Mono w g w g' := ⟨⟨fun b => by simp [g', G.newOwn], fun _ _ _ => rfl⟩, fun _ _ e => e, fun id u hu => by
    have : id ≠ s.n := fun e => by rw [e, hno] at hu; cases hu
    simp [g', G.newOwn, this, hu], fun id u hu => by
    have : id ≠ s.n := fun e => by rw [e, hno] at hu; cases hu
    simp [g', G.newOwn, this]⟩
  have htop : g'.top = g.top := by funext b; simp [g', G.newOwn]
  have hown : g'.owner = g.owner := by funext b; simp [g', G.newOwn]
  have hk := hK g' (by simp [g', G.newOwn]) (by simp [g', G.newOwn]) htop hm
  refine ⟨g', ?_, by simp [g', G.newOwn], hm⟩
  exact h.turn (w' := w) (g' := g') (n' := s.n + 1) (O' := [(s.n, K)]) D rfl rfl rfl (Nat.le_refl _) (fun _ _ _ => rfl) (fun b => by rw [htop]; exact Nat.le_refl _)
    (fun b hb _ => ⟨rfl, by rw [hown], by rw [htop]⟩)
    (fun b j hj _ hb => by rw [hown] at hb; exact hb)
    (fun i hi => by
      have : i ≠ s.n := by omega
      simp [g', G.newOwn, this])
    hD
    { topNew := fun b hb => by rw [htop]; exact h.wf.topNew b hb
      ownNew := fun b hb => by rw [hown]; exact h.wf.ownNew b hb
      blkOwner := fun id b hb => by
        obtain ⟨k1, k2, k3, k4⟩ := h.wf.blkOwner id b hb
        rw [hown, htop]
        exact ⟨k1, k2, k3, by omega⟩
      ownLt := fun id u hu => by
        simp only [g', G.newOwn] at hu
        split at hu
        · omega
        · have := h.wf.ownLt id u hu; omega
      ownSl := fun id u hu => by
        simp only [g', G.newOwn] at hu
        split at hu
        · obtain rfl := Option.some.inj hu; exact hv1
        · exact h.wf.ownSl id u hu
      sep := fun id b hb => by
        have hb' : g.blk id = some b := hb
        have : id ≠ s.n := fun e => by rw [e, hnb] at hb'; cases hb'
        simp only [g', G.newOwn, this, if_false]
        exact h.wf.sep id b hb'
      idLt := fun b i hb => by
        rw [hown] at hb
        have := h.wf.idLt b i hb; omega }
    (Nat.le_succ _)
    (fun i K' hx => by
      simp only [lkO] at hx
      split at hx
      · rename_i hi
        have hi' : s.n = i := by simpa using hi
        subst hi'
        obtain rfl := Option.some.inj hx
        exact hk
      · cases hx)

/-- A row that is the call's own, under a new number, as another value. -/
theorem Inv.moved (h : Inv N n0 w0 g0 s a w g) {w' : World} {v v0 : Value} {K : Kind} {k z b : Nat} (hown : g.own k = some v0) (howner : g.owner b = some k) (hv1 : v.oneCell' = true)
    (m1 : w'.os = w.os) (m2 : w'.tape = w.tape) (m3 : w'.output = w.output) (m4 : w'.heap.size = w.heap.size) (hcw : ∀ x o, w'.cell? ⟨x, o, none⟩ = w.cell? ⟨x, o, none⟩) (hoth : ∀ x, x ≠ b → w'.heap[x]? = w.heap[x]?)
    (hK : ∀ g' : G, g'.own s.n = some v → g'.wd s.n = z → g'.top = g.top → g'.owner b = some s.n → Mono w g w' g' → K.holds s.n w' g') :
    ∃ g', Inv N n0 w0 g0 ⟨s.σ, s.H, (s.n, K) :: dropO [k] s.O, s.n + 1⟩ a w' g' ∧ g'.own s.n = some v ∧ Mono w g w' g' := by
  let g' : G := g.newOwn s.n v z (some b) (g.top b)
  obtain ⟨hnb, hno⟩ := h.wf.fresh
  have hbs : b < w.heap.size := h.wf.ownerLt howner
  have hkn : k < s.n := h.wf.ownLt _ _ hown
  have htop : g'.top = g.top := by
    funext c
    simp only [g', G.newOwn]
    split
    · rename_i e; obtain rfl := Option.some.inj e; rfl
    · rfl
  have hm : Mono w g w' g' := ⟨⟨fun c => by rw [htop]; exact Nat.le_refl _, fun x o _ => hcw x o⟩, fun _ _ e => e, fun id u hu => by
    have : id ≠ s.n := fun e => by rw [e, hno] at hu; cases hu
    simp [g', G.newOwn, this, hu], fun id u hu => by
    have : id ≠ s.n := fun e => by rw [e, hno] at hu; cases hu
    simp [g', G.newOwn, this]⟩
  have hne : ∀ id b', g.blk id = some b' → b' ≠ b := fun id b' hb e => by
    subst e
    have := (h.wf.blkOwner id b' hb).1
    rw [howner] at this
    obtain rfl := Option.some.inj this
    rw [h.wf.sep _ _ hb] at hown; cases hown
  have hk := hK g' (by simp [g', G.newOwn]) (by simp [g', G.newOwn]) htop (by simp [g', G.newOwn]) hm
  refine ⟨g', ?_, by simp [g', G.newOwn], hm⟩
  exact h.turn (w' := w') (g' := g') (n' := s.n + 1) (O' := [(s.n, K)]) [k] m1 m2 m3 (by rw [m4]; exact Nat.le_refl _) (fun x o _ => hcw x o) (fun c => by rw [htop]; exact Nat.le_refl _)
    (fun b' hb' hno' => by
      have hbb : b' ≠ b := fun e => by subst e; exact hno' k (by simp) howner
      refine ⟨hoth b' hbb, ?_, by rw [htop]⟩
      simp [g', G.newOwn, Ne.symm hbb])
    (fun b' j hj hjD hb' => by
      simp only [g', G.newOwn] at hb'
      split at hb'
      · obtain rfl := Option.some.inj hb'; omega
      · exact hb')
    (fun i hi => by
      have : i ≠ s.n := by omega
      simp [g', G.newOwn, this])
    (fun i hi => by
      obtain rfl : i = k := by simpa using hi
      exact ⟨_, hown⟩)
    { topNew := fun b' hb' => by rw [htop]; exact h.wf.topNew b' (by omega)
      ownNew := fun b' hb' => by
        have h1 : ¬ (b = b') := by omega
        simp only [g', G.newOwn, Option.some.injEq, h1, if_false]
        exact h.wf.ownNew b' (by omega)
      blkOwner := fun id b' hb' => by
        obtain ⟨k1, k2, k3, k4⟩ := h.wf.blkOwner id b' hb'
        have h1 := Ne.symm (hne id b' hb')
        rw [htop]
        simp only [g', G.newOwn, Option.some.injEq, h1, if_false]
        exact ⟨k1, by omega, k3, by omega⟩
      ownLt := fun id u hu => by
        simp only [g', G.newOwn] at hu
        split at hu
        · omega
        · have := h.wf.ownLt id u hu; omega
      ownSl := fun id u hu => by
        simp only [g', G.newOwn] at hu
        split at hu
        · obtain rfl := Option.some.inj hu; exact hv1
        · exact h.wf.ownSl id u hu
      sep := fun id b' hb' => by
        have hb'' : g.blk id = some b' := hb'
        have : id ≠ s.n := fun e => by rw [e, hnb] at hb''; cases hb''
        simp only [g', G.newOwn, this, if_false]
        exact h.wf.sep id b' hb''
      idLt := fun b' i hb' => by
        simp only [g', G.newOwn] at hb'
        split at hb'
        · obtain rfl := Option.some.inj hb'; omega
        · have := h.wf.idLt b' i hb'; omega }
    (Nat.le_succ _)
    (fun i K' hx => by
      simp only [lkO] at hx
      split at hx
      · rename_i hi
        have hi' : s.n = i := by simpa using hi
        subst hi'
        obtain rfl := Option.some.inj hx
        exact hk
      · cases hx)

/-! ### writing behind a row -/

theorem setCells_other (b : Nat) : ∀ (vs : List Value) (o : Nat) (w : World) {i : Nat}, i ≠ b → (w.setCells b o vs).heap[i]? = w.heap[i]?
  | [], _, _, _, _ => rfl
  | v :: r, o, w, i, h => by
    rw [World.setCells, setCells_other b r (o + 1) _ h]
    simp only [World.setCell, Array.getElem?_modify]
    rw [if_neg (Ne.symm h)]

theorem setCells_meta (b : Nat) : ∀ (vs : List Value) (o : Nat) (w : World), (w.setCells b o vs).os = w.os ∧ (w.setCells b o vs).tape = w.tape ∧ (w.setCells b o vs).output = w.output ∧ (w.setCells b o vs).heap.size = w.heap.size
  | [], _, _ => ⟨rfl, rfl, rfl, rfl⟩
  | v :: r, o, w => by
    rw [World.setCells]
    obtain ⟨h1, h2, h3, h4⟩ := setCells_meta b r (o + 1) (w.setCell ⟨b, o, none⟩ v)
    exact ⟨h1, h2, h3, by rw [h4]; simp [World.setCell]⟩

theorem setCells_shape (b : Nat) : ∀ (vs : List Value) (o : Nat) (w : World) {c : Array Value} {e : TypeId} {fr : Nat × Nat}, w.heap[b]? = some (.cells c e fr) →
    ∃ c', (w.setCells b o vs).heap[b]? = some (.cells c' e fr) ∧ c'.size = c.size
  | [], _, _, c, _, _, h => ⟨c, h, rfl⟩
  | v :: r, o, w, c, e, fr, h => by
    rw [World.setCells]
    obtain ⟨c', h1, h2⟩ := setCells_shape b r (o + 1) (w.setCell ⟨b, o, none⟩ v) (c := c.setIfInBounds o v) (e := e) (fr := fr) (by
      simp only [World.setCell, Array.getElem?_modify, if_true, h]; rfl)
    exact ⟨c', h1, by simpa using h2⟩

theorem cell_of_cells {c : Array Value} {e : TypeId} {fr : Nat × Nat} {b o : Nat} (h : w.heap[b]? = some (.cells c e fr)) : w.cell? ⟨b, o, none⟩ = c[o]? := by simp [World.cell?, h]

/-- Added to where it lies. -/
theorem Inv.added (h : Inv N n0 w0 g0 s a w g) (wr : Bool) {k z cap : Nat} {xs ys : List (List AV)} {ad : Addr} {news : List Value} (hk : lkO s.O k = some (mkRow wr z xs)) (hown : g.own k = some (.slice (some ad) xs.length cap))
    (hours : Ours k w g ad (cap * z)) (htop : if wr then g.top ad.block ≤ ad.off else g.top ad.block = ad.off + xs.length * z) (hw : Wide z ys) (hfit : xs.length + ys.length ≤ cap)
    (hr : RepL w (if wr then g else G.ofTop g.top) ys.flatten news) :
    ∃ g', Inv N n0 w0 g0 ⟨s.σ, s.H, (s.n, mkRow wr z (xs ++ ys)) :: dropO [k] s.O, s.n + 1⟩ a (w.setCells ad.block (ad.off + xs.length * z) news) g' ∧
      g'.own s.n = some (.slice (some ad) (xs.length + ys.length) cap) ∧ Mono w g (w.setCells ad.block (ad.off + xs.length * z) news) g' := by
  obtain ⟨hspot, howner, c, e, fr, hc, hcs, hfz⟩ := hours
  obtain ⟨b, off, sp⟩ := ad
  simp only at hspot howner hc hcs hfz htop
  subst hspot
  let w' := w.setCells b (off + xs.length * z) news
  let v : Value := .slice (some ⟨b, off, none⟩) (xs.length + ys.length) cap
  let T : Nat := if wr then g.top b else off + (xs.length + ys.length) * z
  let g' : G := g.newOwn s.n v z (some b) T
  obtain ⟨hnb, hno⟩ := h.wf.fresh
  have hbs : b < w.heap.size := h.wf.ownerLt howner
  have hkn : k < s.n := h.wf.ownLt _ _ hown
  have hlen : news.length = ys.length * z := by rw [hr.length, hw.flatten_length]
  have hfz' : (xs.length + ys.length) * z ≤ cap * z := Nat.mul_le_mul_right _ hfit
  rw [Nat.add_mul] at hfz'
  obtain ⟨m1, m2, m3, m4⟩ := setCells_meta b news (off + xs.length * z) w
  obtain ⟨c', hc', hcs'⟩ := setCells_shape b news (off + xs.length * z) w hc
  have hws : w'.heap.size = w.heap.size := m4
  have htb : g.top b ≤ off + xs.length * z := by cases wr <;> simp at htop <;> omega
  have hT : g.top b ≤ T := by
    simp only [T]; cases wr <;> simp
    simp at htop; rw [Nat.add_mul]; omega
  have hst : ∀ c o, o < g.top c → w'.cell? ⟨c, o, none⟩ = w.cell? ⟨c, o, none⟩ := fun c o ho => by
    refine World.cell?_setCells_out b news _ w _ fun e _ => .inl ?_
    simp only at e; subst e; show o < off + xs.length * z; omega
  have htops : ∀ c, g.top c ≤ g'.top c := fun c => by
    simp only [g', G.newOwn]
    split
    · rename_i e; obtain rfl := Option.some.inj e; exact hT
    · exact Nat.le_refl _
  have hm : Mono w g w' g' := ⟨⟨htops, hst⟩, fun _ _ e => e, fun id u hu => by
    have : id ≠ s.n := fun e => by rw [e, hno] at hu; cases hu
    simp [g', G.newOwn, this, hu], fun id u hu => by
    have : id ≠ s.n := fun e => by rw [e, hno] at hu; cases hu
    simp [g', G.newOwn, this]⟩
  have hin : ∀ j u, news[j]? = some u → w'.cell? ⟨b, off + xs.length * z + j, none⟩ = some u := fun j u hu => by
    obtain ⟨hj, rfl⟩ := List.getElem?_eq_some_iff.1 hu
    refine World.cell?_setCells_in b news (off + xs.length * z) w (fun i hi => ?_) j hj
    rw [cell_of_cells hc]
    have : off + xs.length * z + i < c.size := by omega
    simp [this]
  have hours' : Ours s.n w' g' ⟨b, off, none⟩ (cap * z) := by
    refine ⟨rfl, by simp [g', G.newOwn], c', e, fr, hc', by show off + cap * z ≤ c'.size; omega, ?_⟩
    rw [hcs']; exact hfz
  have hkh := h.owns.at hk
  have hwd : Wide z (xs ++ ys) := by
    intro r hr'
    rcases List.mem_append.1 hr' with hx | hx
    · cases wr <;> exact hkh.1 r hx
    · exact hw r hx
  have hK : (mkRow wr z (xs ++ ys)).holds s.n w' g' := by
    cases wr with
    | true =>
      obtain ⟨q1, q2, a', cap', q3, q4, q5, q6⟩ := hkh
      rw [hown] at q3
      obtain ⟨rfl, _, rfl⟩ : some (⟨b, off, none⟩ : Addr) = a' ∧ xs.length = xs.length ∧ cap = cap' := by simpa using q3
      obtain ⟨_, _, us, hus, hcell⟩ := q6 _ rfl
      refine ⟨hwd, by simp [g', G.newOwn], some ⟨b, off, none⟩, cap, by simp [g', G.newOwn, v], by simpa using hfit, (fun e => by cases e), fun ad e => ?_⟩
      obtain rfl := Option.some.inj e
      refine ⟨hours', by simp [g', G.newOwn, T]; simpa using htop, us ++ news, ?_, fun j u hu => ?_⟩
      · rw [List.flatten_append]; exact RepL.append (RepL.mono _ _ hm hus) (RepL.mono _ _ hm hr)
      · have hul : us.length = xs.length * z := by rw [hus.length, Wide.flatten_length q1]
        by_cases hj : j < us.length
        · rw [List.getElem?_append_left hj] at hu
          have := hcell j u hu
          rw [← this]
          exact World.cell?_setCells_out b news _ w _ fun _ _ => .inl (by show off + j < off + xs.length * z; omega)
        · rw [List.getElem?_append_right (by omega)] at hu
          have := hin _ u hu
          rwa [show off + xs.length * z + (j - us.length) = off + j by omega] at this
    | false =>
      obtain ⟨q1, q2, a', cap', q3, q4, q5, q6⟩ := hkh
      rw [hown] at q3
      obtain ⟨rfl, _, rfl⟩ : some (⟨b, off, none⟩ : Addr) = a' ∧ xs.length = xs.length ∧ cap = cap' := by simpa using q3
      obtain ⟨_, q7, _⟩ := q6 _ rfl
      refine ⟨hwd, by simp [g', G.newOwn], some ⟨b, off, none⟩, cap, by simp [g', G.newOwn, v], by simpa using hfit, (fun e => by cases e), fun ad e => ?_⟩
      obtain rfl := Option.some.inj e
      refine ⟨fun _ => rfl, ?_, .inr ⟨hours', by simp [g', G.newOwn, T]⟩⟩
      refine RepRows.append (RepRows.mono _ _ _ hm.t q7) ?_
      rw [Wide.flatten_length q1]
      refine RepRows.of_flat (repAt_of (RepL.mono _ _ (MonoT.ofTop hm.t) hr) fun j u hu => ⟨hin j u hu, ?_⟩)
      have hj := (List.getElem?_eq_some_iff.1 hu).1
      simp only [g', G.newOwn, if_true, T, Bool.false_eq_true, if_false]
      rw [Nat.add_mul]; omega
  refine ⟨g', ?_, by simp [g', G.newOwn, v], hm⟩
  have hne : ∀ id b', g.blk id = some b' → b' ≠ b := fun id b' hb e => by
    subst e
    have := (h.wf.blkOwner id b' hb).1
    rw [howner] at this
    obtain rfl := Option.some.inj this
    rw [h.wf.sep _ _ hb] at hown; cases hown
  exact h.turn (w' := w') (g' := g') (n' := s.n + 1) (O' := [(s.n, mkRow wr z (xs ++ ys))]) [k] m1 m2 m3 (by rw [m4]; exact Nat.le_refl _) hst htops
    (fun b' hb' hno => by
      have hbb : b' ≠ b := fun e => by subst e; exact hno k (by simp) howner
      refine ⟨setCells_other b news _ w hbb, ?_, ?_⟩ <;> simp [g', G.newOwn, Ne.symm hbb])
    (fun b' j hj hjD hb' => by
      simp only [g', G.newOwn] at hb'
      split at hb'
      · obtain rfl := Option.some.inj hb'; omega
      · exact hb')
    (fun i hi => by
      have : i ≠ s.n := by omega
      simp [g', G.newOwn, this])
    (fun i hi => by
      obtain rfl : i = k := by simpa using hi
      exact ⟨_, hown⟩)
    { topNew := fun b' hb' => by
        have h1 : ¬ (b = b') := by omega
        simp only [g', G.newOwn, Option.some.injEq, h1, if_false]
        exact h.wf.topNew b' (by omega)
      ownNew := fun b' hb' => by
        have h1 : ¬ (b = b') := by omega
        simp only [g', G.newOwn, Option.some.injEq, h1, if_false]
        exact h.wf.ownNew b' (by omega)
      blkOwner := fun id b' hb' => by
        obtain ⟨k1, k2, k3, k4⟩ := h.wf.blkOwner id b' hb'
        have h1 := Ne.symm (hne id b' hb')
        simp only [g', G.newOwn, Option.some.injEq, h1, if_false]
        exact ⟨k1, by omega, k3, by omega⟩
      ownLt := fun id u hu => by
        simp only [g', G.newOwn] at hu
        split at hu
        · omega
        · have := h.wf.ownLt id u hu; omega
      ownSl := fun id u hu => by
        simp only [g', G.newOwn] at hu
        split at hu
        · obtain rfl := Option.some.inj hu; rfl
        · exact h.wf.ownSl id u hu
      sep := fun id b' hb' => by
        have hb'' : g.blk id = some b' := hb'
        have : id ≠ s.n := fun e => by rw [e, hnb] at hb''; cases hb''
        simp only [g', G.newOwn, this, if_false]
        exact h.wf.sep id b' hb''
      idLt := fun b' i hb' => by
        simp only [g', G.newOwn] at hb'
        split at hb'
        · obtain rfl := Option.some.inj hb'; omega
        · have := h.wf.idLt b' i hb'; omega }
    (Nat.le_succ _)
    (fun i K hx => by
      simp only [lkO] at hx
      split at hx
      · rename_i hi
        have hi' : s.n = i := by simpa using hi
        subst hi'
        obtain rfl := Option.some.inj hx
        exact hK
      · cases hx)

end
end Go.Pv
