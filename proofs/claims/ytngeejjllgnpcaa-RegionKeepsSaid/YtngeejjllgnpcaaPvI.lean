/- A region whose operations Go may carry out in more than one order: one walk in the text's order serves for all of them. -/
import Derived.Test.YtngeejjllgnpcaaPvH
import Derived.Orders
namespace Go.Pv
open Go.RowKit (Below)
set_option linter.unusedSimpArgs false
set_option linter.unusedSectionVars false
set_option linter.unusedVariables false

def tmpsOf (o : Oper) : List Tmp := o.op.operands.toList.filterMap fun | .tmp t => some t | _ => none

def restr (o : Oper) (σ : List (Nat × AV)) : List (Nat × AV) := (tmpsOf o).map fun t => (t, lk σ t)

theorem lk_restr (σ : List (Nat × AV)) (ts : List Tmp) (t : Nat) : lk (ts.map fun t => (t, lk σ t)) t = .any ∨ (t ∈ ts ∧ lk (ts.map fun t => (t, lk σ t)) t = lk σ t) := by
  induction ts with
  | nil => exact .inl rfl
  | cons u ts ih =>
    simp only [List.map_cons, lk]
    by_cases h : Nat.beq u t = true
    · have e : u = t := by simpa using h
      subst e
      exact .inr ⟨by simp, by simp⟩
    · rw [if_neg h]
      rcases ih with h1 | ⟨h1, h2⟩
      · exact .inl h1
      · exact .inr ⟨by simp [h1], h2⟩

def bq (b want : Bool) : Bool :=
  match want with
  | true => b
  | false => !b

theorem bq_eq (b want : Bool) : bq b want = (b == want) := by cases b <;> cases want <;> rfl

def wantedS (ops : Array Oper) (σ : List (Nat × AV)) : Option (Nat × Bool) → Option Bool
  | none => some true
  | some (j, want) => match gslot ops j with
    | some e => match lk σ e with
      | .bool b => some (bq b want)
      | .tup [] => some false
      | _ => none
    | none => none

def gslotOf (ops : Array Oper) (o : Oper) : List Tmp :=
  match o.guard with
  | some (j, _) => (gslot ops j).toList
  | none => []

def usesOf (ops : Array Oper) (o : Oper) : List Tmp := gslotOf ops o ++ tmpsOf o

/-- A step that only answers: nothing that was there is changed. -/
def Step (P : Program) (N n0 : Nat) (s : St) (o : Oper) (v : AV) : Prop :=
  ∀ w0 g0 a w g, Inv N n0 w0 g0 s a w g → ∀ Q, o.wp P a w (fun a' w' => ∃ u top', a' = a.put o.dst u ∧ Rep w' { g with top := top' } v u ∧ PF w g.top w' top') Q

section
variable {P : Program} {N n0 : Nat} {s : St} {w0 : World} {g0 : G} {a : Act} {w : World} {g : G} {ops : Array Oper}

theorem PF.refl {top : Nat → Nat} (h : ∀ b, w.heap.size ≤ b → top b = 0) : PF w top w top := ⟨Below.refl _ _, fun _ _ => rfl, h⟩

theorem step_value {o : Oper} {v : AV} (h : ∀ w0 g0 a w g, Inv N n0 w0 g0 s a w g → ∃ u, (execOp a.eval o).run P w = .ok (.value u) w ∧ Rep w g v u) : Step P N n0 s o v := by
  intro w0 g0 a w g hi Q
  obtain ⟨u, hu, hr⟩ := h w0 g0 a w g hi
  simp only [Oper.wp, hu, Oper.upon]
  exact ⟨u, g.top, rfl, hr, PF.refl hi.wf.topNew⟩

theorem step_val [Tab P] {o : Oper} {v : AV} (h : opv P s o.op = some v) : Step P N n0 s o v := step_value fun w0 g0 a w g hi => opv_sound hi h

theorem step_call {o : Oper} {fop : Operand} {args : Array Operand} {ats : Array TypeId} {f : FuncId} {caps : List AV} {v : AV} (hop : o.op = .call ⟨.value fop, args, ats⟩)
    (hf : ev s.σ fop = .fn f caps) (hc : limL 0 (args.toList.map (evs s) ++ caps) = true) (call : PCall P f (args.toList.map (evs s) ++ caps) (· = v)) : Step P N n0 s o v := by
  intro w0 g0 a w g hi Q
  have hfr := rep_ev hi.slots fop
  rw [hf] at hfr
  obtain ⟨cs, hfe, hcs⟩ := hfr
  have hargs : RepL w g (args.toList.map (evs s) ++ caps) (args.toList.map a.eval ++ cs) := RepL.append (repL_map hi args.toList) hcs
  have hargs' := RepL.cut 0 _ _ hc hargs
  rw [cut_zero g hi.wf] at hargs'
  have hcall := call.2 w g.top _ hi.wf.topNew hargs'
  obtain ⟨dst, op, type, pos, after, guard⟩ := o
  subst hop
  have hrun : (execOp a.eval ⟨dst, .call ⟨.value fop, args, ats⟩, type, pos, after, guard⟩).run P w = .ok (.enter f (args.toList.map a.eval ++ cs).toArray) w := by
    have : (args.map a.eval ++ cs.toArray) = (args.toList.map a.eval ++ cs).toArray := by
      rw [map_toArray]; simp
    simp only [execOp, resolve, hfe, Deferred.ofValue, Sem.run_bind, Sem.run_pure, Result.andThen_ok, invoke]
    rw [show (#[] ++ args.map a.eval) = args.map a.eval by simp, this]
    exact run_callFunc call.1 _ w
  simp only [Oper.wp, hrun, Oper.upon]
  refine hcall.mono ?_
  rintro e w' ⟨u, r, top', rfl, rfl, hr, hp⟩
  exact ⟨u, top', rfl, Rep.up (g := { g with top := top' }) hr, hp⟩

/-- The walk of the operations in the text's order. i: the next one's place; A: cells, those of new variables too; al: which operation made which variable. -/
inductive Pre (P : Program) [Tab P] (N n0 : Nat) (ops : Array Oper) (H : List (Nat × Nat × AV)) (O : List (Nat × Kind)) :
    Nat → List Oper → List (Nat × AV) → Nat → List (Nat × Nat × AV) → List (Nat × AV) → Nat → List (Nat × Nat × AV) → List (Nat × Nat × List AV) → Prop
  | nil {i σ n A} : Pre P N n0 ops H O i [] σ n A σ n A []
  | go {i o rest σ n A σ' n' A' al d v} (hd : o.dst = some d) (hN : Nat.blt d N = true) (hg : wantedS ops σ o.guard = some true) (hs : ∀ m, Step P N n0 ⟨restr o σ, H, O, m⟩ { o with guard := none } v)
      (k : Pre P N n0 ops H O (i + 1) rest ((d, v) :: σ) n A σ' n' A' al) : Pre P N n0 ops H O i (o :: rest) σ n A σ' n' A' al
  | no {i o rest σ n A σ' n' A' al d} (hd : o.dst = some d) (hN : Nat.blt d N = true) (hg : wantedS ops σ o.guard = some false)
      (k : Pre P N n0 ops H O (i + 1) rest ((d, .tup []) :: σ) n A σ' n' A' al) : Pre P N n0 ops H O i (o :: rest) σ n A σ' n' A' al
  | al {i o rest σ n A σ' n' A' al d t j} (hd : o.dst = some d) (hN : Nat.blt d N = true) (hg : wantedS ops σ o.guard = some true) (hop : o.op = .alloc t) (ht : ti P t = some j)
      (k : Pre P N n0 ops H O (i + 1) rest ((d, .ptr n 0) :: σ) (n + 1) (allocH n 0 j.zero A) σ' n' A' al) : Pre P N n0 ops H O i (o :: rest) σ n A σ' n' A' ((i, n, j.zero) :: al)
  | eqv {i l σ n A σ' n' A' al σ₁} (h : ∀ t, lk σ₁ t = lk σ t) (k : Pre P N n0 ops H O i l σ₁ n A σ' n' A' al) : Pre P N n0 ops H O i l σ n A σ' n' A' al

variable [Tab P] {H : List (Nat × Nat × AV)} {O : List (Nat × Kind)}

/-- No later operation writes what one writes or looks at. -/
def okL (ops : Array Oper) : List Oper → Bool
  | [] => true
  | o :: rest => (match o.dst with | some d => !(usesOf ops o).contains d | none => false) &&
      rest.all (fun r => match r.dst with | some d => o.dst != some d && !(usesOf ops o).contains d | none => false) && okL ops rest

theorem okL_cons {o : Oper} {rest : List Oper} (h : okL ops (o :: rest) = true) {d : Nat} (hd : o.dst = some d) :
    okL ops rest = true ∧ d ∉ usesOf ops o ∧ (∀ t, t = d ∨ t ∈ usesOf ops o → ∀ r ∈ rest, r.dst ≠ some t) := by
  simp only [okL, Bool.and_eq_true, List.all_eq_true, hd] at h
  refine ⟨h.2, by have := h.1.1; rw [List.contains_eq_mem] at this; simpa using this, fun t ht r hr e => ?_⟩
  have := h.1.2 r hr
  rw [e] at this
  simp only [Bool.and_eq_true, bne_iff_ne, ne_eq, Bool.not_eq_true'] at this
  rcases ht with rfl | ht
  · exact this.1 rfl
  · have h2 := this.2; rw [List.contains_eq_mem] at h2; simp at h2; exact h2 ht

theorem Pre.lk_same {i : Nat} {l : List Oper} {σ : List (Nat × AV)} {n : Nat} {A : List (Nat × Nat × AV)} {σ' : List (Nat × AV)} {n' : Nat} {A' : List (Nat × Nat × AV)} {al : List (Nat × Nat × List AV)}
    (h : Pre P N n0 ops H O i l σ n A σ' n' A' al) : ∀ t, (∀ o ∈ l, o.dst ≠ some t) → lk σ' t = lk σ t := by
  induction h with
  | nil => intro t _; rfl
  | go hd hN hg hs k ih | no hd hN hg k ih | al hd hN hg hop ht k ih =>
    intro t ht
    rw [ih t (fun o ho => ht o (by simp [ho]))]
    have := ht _ (List.mem_cons_self ..)
    simp only [lk]
    rw [if_neg]
    rw [hd] at this
    simp only [Nat.beq_eq]
    exact fun e => this (by rw [e])
  | eqv h k ih => intro t ht; rw [ih t ht, h t]

def Fact (P : Program) [Tab P] (N n0 : Nat) (ops : Array Oper) (H : List (Nat × Nat × AV)) (O : List (Nat × Kind)) (σ' : List (Nat × AV)) (al : List (Nat × Nat × List AV)) (i : Nat) (o : Oper) : Prop :=
  ∃ d, o.dst = some d ∧ Nat.blt d N = true ∧
    ((wantedS ops σ' o.guard = some true ∧ (((∀ p ∈ al, p.1 ≠ i) ∧ ∀ m, Step P N n0 ⟨restr o σ', H, O, m⟩ { o with guard := none } (lk σ' d)) ∨
        (∃ t j id, o.op = .alloc t ∧ ti P t = some j ∧ (i, id, j.zero) ∈ al ∧ lk σ' d = .ptr id 0))) ∨
     (wantedS ops σ' o.guard = some false ∧ (∀ p ∈ al, p.1 ≠ i) ∧ lk σ' d = .tup []))

theorem restr_eq {o : Oper} {σ σ' : List (Nat × AV)} (h : ∀ t ∈ tmpsOf o, lk σ' t = lk σ t) : restr o σ' = restr o σ := by
  unfold restr
  exact List.map_congr_left fun t ht => by rw [h t ht]

theorem wantedS_eq {o : Oper} {σ σ' : List (Nat × AV)} (h : ∀ t ∈ gslotOf ops o, lk σ' t = lk σ t) : wantedS ops σ' o.guard = wantedS ops σ o.guard := by
  unfold gslotOf at h
  unfold wantedS
  cases hg : o.guard with
  | none => rfl
  | some p =>
    obtain ⟨j, want⟩ := p
    simp only [hg] at h ⊢
    cases he : gslot ops j with
    | none => rfl
    | some e => simp only [he, Option.toList] at h ⊢; rw [h e (by simp)]

theorem Pre.als {i : Nat} {l : List Oper} {σ : List (Nat × AV)} {n : Nat} {A : List (Nat × Nat × AV)} {σ' : List (Nat × AV)} {n' : Nat} {A' : List (Nat × Nat × AV)} {al : List (Nat × Nat × List AV)}
    (h : Pre P N n0 ops H O i l σ n A σ' n' A' al) : n ≤ n' ∧ (∀ p ∈ al, i ≤ p.1 ∧ p.1 < i + l.length ∧ n ≤ p.2.1 ∧ p.2.1 < n') ∧ (∀ p ∈ al, ∀ q ∈ al, (p.1 = q.1 ∨ p.2.1 = q.2.1) → p = q) ∧
      (∀ id off x, lkH A' id off = some x → lkH A id off = some x ∨ ∃ p ∈ al, p.2.1 = id ∧ p.2.2[off]? = some x) := by
  induction h with
  | nil => exact ⟨Nat.le_refl _, by simp, by simp, fun _ _ _ h => .inl h⟩
  | eqv h k ih => exact ih
  | go hd hN hg hs k ih =>
    obtain ⟨h1, h2, h3, h4⟩ := ih
    exact ⟨h1, fun p hp => by have := h2 p hp; simp only [List.length_cons]; omega, h3, h4⟩
  | no hd hN hg k ih =>
    obtain ⟨h1, h2, h3, h4⟩ := ih
    exact ⟨h1, fun p hp => by have := h2 p hp; simp only [List.length_cons]; omega, h3, h4⟩
  | @al i o rest σ n A σ' n' A' al d t j hd hN hg hop ht k ih =>
    obtain ⟨h1, h2, h3, h4⟩ := ih
    refine ⟨by omega, ?_, ?_, ?_⟩
    · intro p hp
      rcases List.mem_cons.1 hp with rfl | hp
      · simp only [List.length_cons]; omega
      · have := h2 p hp; simp only [List.length_cons]; omega
    · intro p hp q hq e
      rcases List.mem_cons.1 hp with rfl | hp <;> rcases List.mem_cons.1 hq with rfl | hq
      · rfl
      · have := h2 q hq; simp only at e; omega
      · have := h2 p hp; simp only at e; omega
      · exact h3 p hp q hq e
    · intro id off x hx
      rcases h4 id off x hx with h | ⟨p, hp, e1, e2⟩
      · rw [lkH_alloc] at h
        split at h
        · rename_i hc
          exact .inr ⟨(i, n, j.zero), by simp, hc.1.symm, by simpa using h⟩
        · exact .inl h
      · exact .inr ⟨p, by simp [hp], e1, e2⟩

theorem Pre.facts {i : Nat} {l : List Oper} {σ : List (Nat × AV)} {n : Nat} {A : List (Nat × Nat × AV)} {σ' : List (Nat × AV)} {n' : Nat} {A' : List (Nat × Nat × AV)} {al : List (Nat × Nat × List AV)}
    (h : Pre P N n0 ops H O i l σ n A σ' n' A' al) (hok : okL ops l = true) : ∀ k o, l[k]? = some o → Fact P N n0 ops H O σ' al (i + k) o := by
  induction h with
  | nil => intro k o h; simp at h
  | eqv h k ih => exact ih hok
  | @go i o rest σ n A σ' n' A' al d v hd hN hg hs k ih =>
    intro j q hq
    obtain ⟨hok1, hself, hrest⟩ := okL_cons hok hd
    cases j with
    | zero =>
      simp at hq; subst hq
      have hlk : ∀ t, t ∈ usesOf ops o → lk σ' t = lk σ t := fun t ht => by
        rw [k.lk_same t (hrest t (.inr ht))]
        simp only [lk]
        rw [if_neg]
        simp only [Nat.beq_eq]
        exact fun e => hself (by rw [e]; exact ht)
      have hdv : lk σ' d = v := by rw [k.lk_same d (hrest d (.inl rfl))]; simp [lk]
      have hgd : wantedS ops σ' o.guard = wantedS ops σ o.guard := wantedS_eq fun t ht => hlk t (by simp [usesOf, ht])
      exact ⟨d, hd, hN, .inl ⟨hgd.trans hg, .inl ⟨fun p hp => by have := (k.als.2.1 p hp).1; omega, fun m => by rw [hdv, restr_eq fun t ht => hlk t (by simp [usesOf, ht])]; exact hs m⟩⟩⟩
    | succ j =>
      have := ih hok1 j q (by simpa using hq)
      rw [Nat.add_assoc, Nat.add_comm 1 j] at this
      exact this
  | @no i o rest σ n A σ' n' A' al d hd hN hg k ih =>
    intro j q hq
    obtain ⟨hok1, hself, hrest⟩ := okL_cons hok hd
    cases j with
    | zero =>
      simp at hq; subst hq
      have hlk : ∀ t, t ∈ usesOf ops o → lk σ' t = lk σ t := fun t ht => by
        rw [k.lk_same t (hrest t (.inr ht))]
        simp only [lk]
        rw [if_neg]
        simp only [Nat.beq_eq]
        exact fun e => hself (by rw [e]; exact ht)
      have hdv : lk σ' d = .tup [] := by rw [k.lk_same d (hrest d (.inl rfl))]; simp [lk]
      have hgd : wantedS ops σ' o.guard = wantedS ops σ o.guard := wantedS_eq fun t ht => hlk t (by simp [usesOf, ht])
      exact ⟨d, hd, hN, .inr ⟨hgd.trans hg, fun p hp => by have := (k.als.2.1 p hp).1; omega, hdv⟩⟩
    | succ j =>
      have := ih hok1 j q (by simpa using hq)
      rw [Nat.add_assoc, Nat.add_comm 1 j] at this
      exact this
  | @al i o rest σ n A σ' n' A' al d t j hd hN hg hop ht k ih =>
    intro j' q hq
    obtain ⟨hok1, hself, hrest⟩ := okL_cons hok hd
    cases j' with
    | zero =>
      simp at hq; subst hq
      have hlk : ∀ t, t ∈ usesOf ops o → lk σ' t = lk σ t := fun t ht => by
        rw [k.lk_same t (hrest t (.inr ht))]
        simp only [lk]
        rw [if_neg]
        simp only [Nat.beq_eq]
        exact fun e => hself (by rw [e]; exact ht)
      have hdv : lk σ' d = .ptr n 0 := by rw [k.lk_same d (hrest d (.inl rfl))]; simp [lk]
      have hgd : wantedS ops σ' o.guard = wantedS ops σ o.guard := wantedS_eq fun t ht => hlk t (by simp [usesOf, ht])
      exact ⟨d, hd, hN, .inl ⟨hgd.trans hg, .inr ⟨t, j, n, hop, ht, by simp, hdv⟩⟩⟩
    | succ j' =>
      have := ih hok1 j' q (by simpa using hq)
      rw [Nat.add_assoc, Nat.add_comm 1 j'] at this
      obtain ⟨d', h1, h2, h3⟩ := this
      have hne : ∀ p ∈ al, p.1 ≠ i + (j' + 1) → True := fun _ _ _ => trivial
      have hcons : (∀ p ∈ al, p.1 ≠ i + (j' + 1)) → ∀ p ∈ (i, n, j.zero) :: al, p.1 ≠ i + (j' + 1) := fun hh p hp => by
        rcases List.mem_cons.1 hp with rfl | hp
        · show i ≠ i + (j' + 1); omega
        · exact hh p hp
      exact ⟨d', h1, h2, h3.imp (fun ⟨x, y⟩ => ⟨x, y.imp (fun ⟨u, v⟩ => ⟨hcons u, v⟩) fun ⟨t, j, id, p, q, r, s⟩ => ⟨t, j, id, p, q, by simp [r], s⟩⟩) (fun ⟨x, y, z⟩ => ⟨x, hcons y, z⟩)⟩

/-! ### the orders -/

def hasEdge (o : Oper) (i : Nat) : Bool := o.after.any fun e => Nat.beq e.on i && Region.binds .any e

def chkDep (ops : Array Oper) (m : Nat) : Bool :=
  (List.range m).all fun j => match ops[j]? with
    | some o => (List.range m).all fun i => match (ops[i]?).bind (·.dst) with
      | some t => if (usesOf ops o).contains t then hasEdge o i else true
      | none => true
    | none => true

def chkPost (ops : Array Oper) (m : Nat) : Bool :=
  (List.range ops.size).all fun j => Nat.blt j m || (match ops[j]? with
    | some o => (List.range j).all fun i => hasEdge o i
    | none => true)

def chkBack (ops : Array Oper) : Bool :=
  (List.range ops.size).all fun j => match ops[j]? with
    | some o => o.after.all fun e => !Region.binds .any e || Nat.blt e.on j
    | none => true

def idsLt (n : Nat) : List (Nat × Nat × AV) → Bool
  | [] => true
  | (i, _, _) :: r => Nat.blt i n && idsLt n r

theorem idsLt_lk {n : Nat} : ∀ {H : List (Nat × Nat × AV)}, idsLt n H = true → ∀ id off x, lkH H id off = some x → id < n
  | [], _, _, _, _, h => by simp [lkH] at h
  | (i, o, v) :: r, hh, id, off, x, h => by
    simp only [idsLt, Bool.and_eq_true] at hh
    simp only [lkH] at h
    split at h
    · rename_i hc
      simp only [Bool.and_eq_true, Nat.beq_eq] at hc
      rw [← hc.1]
      simpa using hh.1
    · exact idsLt_lk hh.2 id off x h

theorem mem_ready {md : Region.Mode} {L : Array Bool} {i : Nat} (h : i ∈ Region.ready md ops L) :
    ∃ o, ops[i]? = some o ∧ i < ops.size ∧ L.getD i true = false ∧ ∀ e ∈ o.after.toList, Region.binds md e = true → L.getD e.on false = true := by
  unfold Region.ready at h
  simp only [List.mem_filter, List.mem_range, Bool.and_eq_true, Bool.not_eq_true'] at h
  obtain ⟨h1, h2, h3⟩ := h
  rw [Array.getElem?_eq_getElem h1] at h3 ⊢
  simp only [Option.map_some, Option.getD_some] at h3
  refine ⟨_, rfl, h1, h2, fun e he hb => ?_⟩
  rw [← Array.all_toList, List.all_eq_true] at h3
  have := h3 e he
  simpa [hb] using this

theorem ready_of {md : Region.Mode} {L : Array Bool} {i : Nat} {o : Oper} (ho : ops[i]? = some o) (hL : L.getD i true = false) (he : ∀ e ∈ o.after.toList, Region.binds md e = true → L.getD e.on false = true) :
    i ∈ Region.ready md ops L := by
  have hi : i < ops.size := (Array.getElem?_eq_some_iff.1 ho).1
  unfold Region.ready
  simp only [List.mem_filter, List.mem_range, Bool.and_eq_true, Bool.not_eq_true']
  refine ⟨hi, hL, ?_⟩
  rw [ho]
  simp only [Option.map_some, Option.getD_some]
  rw [← Array.all_toList, List.all_eq_true]
  intro e h
  cases hb : Region.binds md e with
  | false => simp
  | true => simp [he e h hb]

theorem hasEdge_of {o : Oper} {i : Nat} {L : Array Bool} (h : hasEdge o i = true) (he : ∀ e ∈ o.after.toList, Region.binds .any e = true → L.getD e.on false = true) : L.getD i false = true := by
  unfold hasEdge at h
  rw [← Array.any_toList, List.any_eq_true] at h
  obtain ⟨e, h1, h2⟩ := h
  simp only [Bool.and_eq_true, Nat.beq_eq] at h2
  have := he e h1 h2.2
  rwa [h2.1] at this

theorem getD_set {L : Array Bool} {i k : Nat} (hi : i < L.size) (d : Bool) : (L.setIfInBounds i true).getD k d = if k = i then true else L.getD k d := by
  rw [Array.getD_eq_getD_getElem?, Array.getD_eq_getD_getElem?, Array.getElem?_setIfInBounds]
  by_cases h : i = k
  · subst h; simp [hi]
  · simp [h, Ne.symm h]

theorem getD_both {L : Array Bool} {k : Nat} (hk : k < L.size) (d e : Bool) : L.getD k d = L.getD k e := by
  rw [Array.getD_eq_getD_getElem?, Array.getD_eq_getD_getElem?, Array.getElem?_eq_getElem hk]; rfl

/-- The text's own order, behind what has no order. -/
theorem post_run {Q : Exit → Act → World → Prop} {m : Nat} (hp : chkPost ops m = true) (hb : chkBack ops = true) : ∀ (fuel k : Nat) (L : Array Bool) (a : Act) (w : World), m ≤ k → k ≤ ops.size → L.size = ops.size →
    (∀ i, i < ops.size → L.getD i true = decide (i < k)) → ops.size - k ≤ fuel → wpList P ops Q (ops.toList.drop k) a w → wpAny P .any ops Q fuel L a w := by
  intro fuel
  induction fuel with
  | zero =>
    intro k L a w hm hk hs hL hf h
    have hkk : k = ops.size := by omega
    subst hkk
    have hr : Region.ready .any ops L = [] := by
      refine List.eq_nil_iff_forall_not_mem.2 fun i hi => ?_
      obtain ⟨o, _, h2, h3, _⟩ := mem_ready hi
      rw [hL i h2] at h3
      simp [h2] at h3
    refine ⟨hr, ?_⟩
    rw [List.drop_eq_nil_of_le (by simp)] at h
    exact h
  | succ fuel ih =>
    intro k L a w hm hk hs hL hf h
    by_cases hkk : k = ops.size
    · subst hkk
      have hr : Region.ready .any ops L = [] := by
        refine List.eq_nil_iff_forall_not_mem.2 fun i hi => ?_
        obtain ⟨o, _, h2, h3, _⟩ := mem_ready hi
        rw [hL i h2] at h3
        simp [h2] at h3
      rw [List.drop_eq_nil_of_le (by simp)] at h
      exact ⟨fun _ => h, fun i hi => by rw [hr] at hi; cases hi⟩
    · have hlt : k < ops.size := by omega
      have hok : ops[k]? = some ops[k] := Array.getElem?_eq_getElem hlt
      have hready : k ∈ Region.ready .any ops L := by
        refine ready_of hok (by rw [hL k hlt]; simp) fun e he hbd => ?_
        have h1 : chkBack ops = true := hb
        unfold chkBack at h1
        rw [List.all_eq_true] at h1
        have h2 := h1 k (List.mem_range.2 hlt)
        rw [hok] at h2
        simp only at h2
        rw [← Array.all_toList, List.all_eq_true] at h2
        have h3 := h2 e he
        simp only [hbd, Bool.not_true, Bool.false_or] at h3
        have h4 : e.on < k := by simpa using h3
        rw [getD_both (by omega) false true, hL e.on (by omega)]
        simp [h4]
      refine ⟨fun h0 => (by rw [h0] at hready; cases hready), fun i hi => ?_⟩
      obtain ⟨o, h1, h2, h3, h4⟩ := mem_ready hi
      have hik : i = k := by
        rw [hL i h2] at h3
        have h5 : ¬ i < k := by simpa using h3
        refine Classical.byContradiction fun hne => ?_
        have h6 : k < i := by omega
        have h7 : chkPost ops m = true := hp
        unfold chkPost at h7
        rw [List.all_eq_true] at h7
        have h8 := h7 i (List.mem_range.2 h2)
        rw [h1] at h8
        simp only [Bool.or_eq_true] at h8
        rcases h8 with h8 | h8
        · have : i < m := by simpa using h8
          omega
        · rw [List.all_eq_true] at h8
          have h9 := hasEdge_of (h8 k (List.mem_range.2 h6)) h4
          rw [getD_both (by omega) false true, hL k hlt] at h9
          simp at h9
      subst hik
      rw [List.drop_eq_getElem_cons (by simpa using hlt)] at h
      have he : ops.toList[i] = ops[i] := by simp
      rw [he] at h
      have hnext : ∀ a w, wpList P ops Q (ops.toList.drop (i + 1)) a w → wpAny P .any ops Q fuel (L.setIfInBounds i true) a w := fun a w hh =>
        ih (i + 1) _ a w (by omega) (by omega) (by simp [hs]) (fun j hj => by
          rw [getD_set (by omega), hL j hj]
          by_cases hji : j = i
          · subst hji; simp
          · rw [if_neg hji]
            have : (j < i) = (j < i + 1) := by simp; omega
            simp [this]) (by omega) hh
      simp only [wpOp, hok]
      unfold wpList at h
      split at h
      · rename_i hw
        rw [if_pos hw]
        exact h.imp (fun hh => Oper.wp_mono hnext hh) id
      · rename_i hw
        rw [if_neg hw]
        exact hnext _ _ h

/-- What holds while operations ahead of m are carried out in some order; L: those that have been. -/
structure J (P : Program) [Tab P] (N n0 : Nat) (ops : Array Oper) (H : List (Nat × Nat × AV)) (O : List (Nat × Kind)) (m nF : Nat) (σ' : List (Nat × AV)) (al : List (Nat × Nat × List AV))
    (w0 : World) (g0 : G) (L : Array Bool) (a : Act) (w : World) (g : G) (HL : List (Nat × Nat × AV)) (σL : List (Nat × AV)) : Prop where
  inv : Inv N n0 w0 g0 ⟨σL, HL, O, nF⟩ a w g
  slots : ∀ t, (∀ i o, i < m → ops[i]? = some o → o.dst = some t → L.getD i false = true) → lk σL t = lk σ' t
  old : ∀ id off x, lkH H id off = some x → lkH HL id off = some x
  made : ∀ p ∈ al, L.getD p.1 false = true → ∀ off x, p.2.2[off]? = some x → lkH HL p.2.1 off = some x
  free : ∀ p ∈ al, L.getD p.1 false = false → g.blk p.2.1 = none ∧ g.own p.2.1 = none

theorem wanted_of {o : Oper} {σL σ' : List (Nat × AV)} {b : Bool} {n : Nat} {HL : List (Nat × Nat × AV)} (hi : Inv N n0 w0 g0 ⟨σL, HL, O, n⟩ a w g) (hl : ∀ t ∈ gslotOf ops o, lk σL t = lk σ' t ∧ t < N)
    (hw : wantedS ops σ' o.guard = some b) : Region.wanted o (yielded ops a.tmps) = b := by
  unfold wantedS at hw
  unfold gslotOf at hl
  cases hg : o.guard with
  | none =>
    simp only [hg] at hw
    obtain rfl := Option.some.inj hw
    simp [Region.wanted, hg]
  | some p =>
    obtain ⟨j, want⟩ := p
    simp only [hg] at hw hl
    cases he : gslot ops j with
    | none => simp [he] at hw
    | some e =>
      simp only [he, Option.toList] at hw hl
      obtain ⟨h1, h2⟩ := hl e (by simp)
      have hr := hi.slots e
      rw [h1] at hr
      have hN : Nat.blt e N = true := by simpa using h2
      split at hw
      · rename_i c hc
        rw [hc] at hr
        obtain rfl := Option.some.inj hw
        simp only [Region.wanted, hg]
        rw [yielded_of he hN hi.size hr]
        cases c <;> cases want <;> rfl
      · rename_i hc
        rw [hc] at hr
        obtain rfl := Option.some.inj hw
        obtain ⟨vs, e1, e2⟩ := hr
        obtain rfl : vs = [] := e2
        simp only [Region.wanted, hg]
        rw [yielded_undef he hN hi.size e1]
        rfl
      · cases hw

/-- One of the operations ahead of m. -/
theorem J.step {m nF n : Nat} {σ' : List (Nat × AV)} {al : List (Nat × Nat × List AV)} {L : Array Bool} {HL : List (Nat × Nat × AV)} {σL : List (Nat × AV)} (h : J P N n0 ops H O m nF σ' al w0 g0 L a w g HL σL)
    (hm : m ≤ ops.size) (hs : L.size = ops.size) (hH : ∀ id off x, lkH H id off = some x → id < n) (hn0 : n0 ≤ n) (hal : ∀ p ∈ al, n ≤ p.2.1 ∧ p.2.1 < nF) (hun : ∀ p ∈ al, ∀ q ∈ al, (p.1 = q.1 ∨ p.2.1 = q.2.1) → p = q)
    (hdst : ∀ i o, i < m → ops[i]? = some o → ∀ t, o.dst = some t → ∀ i' o', i' < m → ops[i']? = some o' → o'.dst = some t → i' = i)
    (hbnd : ∀ i o, i < m → ops[i]? = some o → ∀ t ∈ gslotOf ops o, t < N)
    {j : Nat} {o : Oper} (hj : j < m) (ho : ops[j]? = some o) (hjL : L.getD j true = false) (hdep : ∀ t ∈ usesOf ops o, ∀ i o', i < m → ops[i]? = some o' → o'.dst = some t → L.getD i false = true)
    (hf : Fact P N n0 ops H O σ' al j o) {Q : Exit → Act → World → Prop} {K : Act → World → Prop}
    (hK : ∀ a' w' g' HL' σL', J P N n0 ops H O m nF σ' al w0 g0 (L.setIfInBounds j true) a' w' g' HL' σL' → K a' w') : wpOp P ops Q j K a w := by
  obtain ⟨d, hd, hdN, hcase⟩ := hf
  have hjs : j < L.size := by omega
  have huse : ∀ t ∈ usesOf ops o, lk σL t = lk σ' t := fun t ht => h.slots t (hdep t ht)
  have hslots' : ∀ v, v = lk σ' d → ∀ t, (∀ i o, i < m → ops[i]? = some o → o.dst = some t → (L.setIfInBounds j true).getD i false = true) → lk ((d, v) :: σL) t = lk σ' t := by
    intro v hv t ht
    simp only [lk]
    by_cases hb : Nat.beq d t = true
    · have e : d = t := by simpa using hb
      subst e
      rw [if_pos hb, hv]
    · rw [if_neg hb]
      refine h.slots t fun i o' hi ho' hd' => ?_
      have := ht i o' hi ho' hd'
      rw [getD_set hjs] at this
      split at this
      · rename_i hij
        subst hij
        rw [ho] at ho'
        obtain rfl := Option.some.inj ho'
        rw [hd] at hd'
        exact absurd (by simp [Option.some.inj hd']) hb
      · exact this
  simp only [wpOp, ho]
  have hfree : ∀ p ∈ al, (L.setIfInBounds j true).getD p.1 false = false → L.getD p.1 false = false ∧ p.1 ≠ j := fun p _ hL => by
    rw [getD_set hjs] at hL
    split at hL
    · cases hL
    · exact ⟨hL, by assumption⟩
  have hmade : (∀ p ∈ al, p.1 ≠ j) → ∀ p ∈ al, (L.setIfInBounds j true).getD p.1 false = true → L.getD p.1 false = true := fun hno p hp hL => by
    rw [getD_set hjs] at hL
    rw [if_neg (hno p hp)] at hL
    exact hL
  rcases hcase with ⟨hw, hrun⟩ | ⟨hw, hno, hv⟩
  · have hwant := wanted_of h.inv (fun t ht => ⟨huse t (by simp [usesOf, ht]), hbnd j o hj ho t ht⟩) hw
    rw [if_pos hwant]
    refine .inl ?_
    rcases hrun with ⟨hno, hstep⟩ | ⟨t, ji, id, hop, hti, hmem, hv⟩
    · have hinv : Inv N n0 w0 g0 ⟨restr o σ', H, O, nF⟩ a w g := { h.inv with
        slots := fun t => by
          rcases lk_restr σ' (tmpsOf o) t with e | ⟨h1, e⟩
          · show Rep w g (lk (restr o σ') t) _
            unfold restr; rw [e]; trivial
          · show Rep w g (lk (restr o σ') t) _
            unfold restr; rw [e, ← huse t (by simp [usesOf, h1])]
            exact h.inv.slots t
        cells := fun id off x hx => h.inv.cells id off x (h.old id off x hx) }
      have := hstep nF w0 g0 a w g hinv Q
      have hwp : o.wp P a w (fun a' w' => ∃ u top', a' = a.put o.dst u ∧ Rep w' { g with top := top' } (lk σ' d) u ∧ PF w g.top w' top') Q := this
      refine Oper.wp_mono ?_ hwp
      rintro a' w' ⟨u, top', rfl, hr, hp⟩
      obtain ⟨hi', _⟩ := h.inv.called hp
      have hput := hi'.put hr (d := o.dst) (by rw [hd]; simpa [dOk] using hdN)
      rw [hd] at hput ⊢
      exact hK _ _ { g with top := top' } HL ((d, lk σ' d) :: σL) ⟨hput, hslots' _ rfl, h.old, fun p hp' hL => h.made p hp' (hmade hno p hp' hL), fun p hp' hL => h.free p hp' (hfree p hp' hL).1⟩
    · obtain ⟨hfb, hfo⟩ := h.free _ hmem (by show L.getD j false = false; rw [getD_both hjs false true]; exact hjL)
      obtain ⟨inf, dd, z, h1⟩ := ti_tells hti
      have hz : RepL w g ji.zero z.cells.toList := by
        rw [h1.zeros]
        generalize z.cells.toList = l
        induction l with
        | nil => rfl
        | cons v l ih => exact ⟨v, l, rfl, rep_const v, ih⟩
      have hidn := hal _ hmem
      simp only at hidn hfb hfo
      obtain ⟨g', hi', hb, hbo, hown, htop⟩ := h.inv.allocAt hz t hfb hfo hidn.2 (Nat.le_refl _) (Nat.le_trans hn0 hidn.1)
      have hrun : (Instr.alloc t true (.tuple #[])).run P w = .ok (.pointer (some ⟨w.heap.size, 0, none⟩)) { w with heap := w.heap.push (.cells z.cells.toList.toArray t (0, 0)) } := by
        simp [Instr.alloc, h1.run_zero, newVar, newRow]
      have hex : (execOp a.eval o).run P w = .ok (.value (.pointer (some ⟨w.heap.size, 0, none⟩))) { w with heap := w.heap.push (.cells z.cells.toList.toArray t (0, 0)) } := by
        obtain ⟨dst, op, type, pos, after, guard⟩ := o
        subst hop
        exact run_valueW hrun
      simp only [Oper.wp, hex, Oper.upon]
      have hput := hi'.put (d := o.dst) (v := .ptr id 0) (val := .pointer (some ⟨w.heap.size, 0, none⟩)) ⟨_, hb, rfl⟩ (by rw [hd]; simpa [dOk] using hdN)
      rw [hd] at hput ⊢
      refine hK _ _ g' (allocH id 0 ji.zero HL) ((d, .ptr id 0) :: σL) ⟨hput, hslots' _ hv.symm, ?_, ?_, ?_⟩
      · intro i off x hx
        rw [lkH_alloc, if_neg]
        · exact h.old i off x hx
        · have := hH i off x hx
          intro hc
          omega
      · intro p hp' hL off x hx
        rw [lkH_alloc]
        by_cases hpj : p.1 = j
        · obtain rfl := hun p hp' _ hmem (.inl hpj)
          simp only at hx ⊢
          have hlt : off < ji.zero.length := (List.getElem?_eq_some_iff.1 hx).1
          rw [if_pos ⟨trivial, Nat.zero_le _, by omega⟩]
          simpa using hx
        · rw [if_neg]
          · rw [getD_set hjs, if_neg hpj] at hL
            exact h.made p hp' hL off x hx
          · intro hc
            exact hpj (by rw [hun p hp' _ hmem (.inr hc.1)])
      · intro p hp' hL
        obtain ⟨h2, h3⟩ := hfree p hp' hL
        have hne : p.2.1 ≠ id := fun e => h3 (by rw [hun p hp' _ hmem (.inr e)])
        rw [hbo _ hne, hown]
        exact h.free p hp' h2
  · have hwant := wanted_of h.inv (fun t ht => ⟨huse t (by simp [usesOf, ht]), hbnd j o hj ho t ht⟩) hw
    rw [if_neg (by simp [hwant])]
    have hput := h.inv.put (d := o.dst) rep_undef (by rw [hd]; simpa [dOk] using hdN)
    rw [hd] at hput ⊢
    exact hK _ _ g HL ((d, .tup []) :: σL) ⟨hput, hslots' _ hv.symm, h.old, fun p hp' hL => h.made p hp' (hmade hno p hp' hL), fun p hp' hL => h.free p hp' (hfree p hp' hL).1⟩

theorem okL_nodup : ∀ {l : List Oper}, okL ops l = true → ∀ (i j : Nat) (o o' : Oper) (t : Nat), l[i]? = some o → l[j]? = some o' → o.dst = some t → o'.dst = some t → i = j
  | [], _, i, _, _, _, _, h, _, _, _ => by simp at h
  | q :: l, h, i, j, o, o', t, hi, hj, ho, ho' => by
    cases i with
    | zero =>
      simp at hi; subst hi
      cases j with
      | zero => rfl
      | succ j =>
        have hm : o' ∈ l := List.mem_of_getElem? (by simpa using hj)
        exact absurd ho' ((okL_cons h ho).2.2 t (.inl rfl) o' hm)
    | succ i =>
      have hm : o ∈ l := List.mem_of_getElem? (by simpa using hi)
      cases j with
      | zero =>
        simp at hj; subst hj
        exact absurd ho ((okL_cons h ho').2.2 t (.inl rfl) o hm)
      | succ j =>
        obtain ⟨d, hd⟩ : ∃ d, q.dst = some d := by
          simp only [okL, Bool.and_eq_true] at h
          cases hq : q.dst with
          | none => simp [hq] at h
          | some d => exact ⟨d, rfl⟩
        rw [okL_nodup (okL_cons h hd).1 i j o o' t (by simpa using hi) (by simpa using hj) ho ho']

def chkG (N : Nat) (ops : Array Oper) (m : Nat) : Bool :=
  (List.range m).all fun j => match ops[j]? with
    | some o => (gslotOf ops o).all fun t => Nat.blt t N
    | none => true

theorem filter_less {j : Nat} {p q : Nat → Bool} : ∀ {l : List Nat}, (∀ i ∈ l, q i = true → p i = true) → j ∈ l → p j = true → q j = false → (l.filter q).length + 1 ≤ (l.filter p).length
  | [], _, h, _, _ => by simp at h
  | x :: l, hpq, hj, hp, hq => by
    have hle : (l.filter q).length ≤ (l.filter p).length := by
      have : ∀ (l : List Nat), (∀ i ∈ l, q i = true → p i = true) → (l.filter q).length ≤ (l.filter p).length := by
        intro l
        induction l with
        | nil => intro _; simp
        | cons y l ih =>
          intro h
          have := ih (fun i hi => h i (by simp [hi]))
          have h2 := h y (by simp)
          cases hqy : q y <;> cases hpy : p y <;> simp [List.filter_cons, hqy, hpy] <;> first | omega | simp_all
      exact this l fun i hi => hpq i (by simp [hi])
    by_cases hx : x = j
    · subst hx
      simp [List.filter_cons, hp, hq]; omega
    · have hj' : j ∈ l := by simpa [Ne.symm hx] using hj
      have ih := filter_less (l := l) (fun i hi => hpq i (by simp [hi])) hj' hp hq
      have h2 := hpq x (by simp)
      cases hqx : q x <;> cases hpx : p x <;> simp [List.filter_cons, hqx, hpx] <;> first | omega | simp_all

def undone (m : Nat) (L : Array Bool) : Nat := ((List.range m).filter fun i => !L.getD i true).length

theorem pre_run {m nF n : Nat} {σ σ' : List (Nat × AV)} {A' : List (Nat × Nat × AV)} {al : List (Nat × Nat × List AV)} {Q : Post} (hm : m ≤ ops.size) (h1 : chkDep ops m = true) (h2 : chkPost ops m = true)
    (h3 : chkBack ops = true) (h4 : chkG N ops m = true) (hok : okL ops (ops.toList.take m) = true) (hH : ∀ id off x, lkH H id off = some x → id < n) (hn0 : n0 ≤ n)
    (pre : Pre P N n0 ops H O 0 (ops.toList.take m) σ n H σ' nF A' al) (k : aops P N n0 ops (ops.toList.drop m) Q ⟨σ', A', O, nF⟩) :
    ∀ (fuel : Nat) (L : Array Bool) (a : Act) (w : World) (g : G) (HL : List (Nat × Nat × AV)) (σL : List (Nat × AV)), J P N n0 ops H O m nF σ' al w0 g0 L a w g HL σL → L.size = ops.size →
      (∀ i, m ≤ i → i < ops.size → L.getD i true = false) → undone m L + (ops.size - m) ≤ fuel → wpAny P .any ops (Q.at N n0 w0 g0) fuel L a w := by
  obtain ⟨hnn, hal, hun, hA⟩ := pre.als
  have hlen : (ops.toList.take m).length = m := by simp; omega
  have hget : ∀ i, i < m → (ops.toList.take m)[i]? = ops[i]? := fun i hi => by rw [List.getElem?_take]; simp [hi]
  have hdone : ∀ (fuel : Nat) (L : Array Bool) (a : Act) (w : World) (g : G) (HL : List (Nat × Nat × AV)) (σL : List (Nat × AV)), J P N n0 ops H O m nF σ' al w0 g0 L a w g HL σL → L.size = ops.size →
      (∀ i, m ≤ i → i < ops.size → L.getD i true = false) → (∀ i, i < m → L.getD i true = true) → ops.size - m ≤ fuel → wpAny P .any ops (Q.at N n0 w0 g0) fuel L a w := by
    intro fuel L a w g HL σL hJ hs hp hd hf
    refine post_run h2 h3 fuel m L a w (Nat.le_refl _) hm hs (fun i hi => ?_) hf (k w0 g0 a w g { hJ.inv with
      slots := fun t => ?_
      cells := fun id off x hx => ?_ })
    · by_cases him : i < m
      · rw [hd i him]; simp [him]
      · rw [hp i (by omega) hi]; simp [him]
    · show Rep w g (lk σ' t) _
      rw [← hJ.slots t fun i o hi _ _ => by rw [getD_both (by omega) false true]; exact hd i hi]
      exact hJ.inv.slots t
    · rcases hA id off x hx with h | ⟨p, hp', rfl, e⟩
      · exact hJ.inv.cells id off x (hJ.old id off x h)
      · have hpl : p.1 < m := by have := hal p hp'; omega
        exact hJ.inv.cells _ off x (hJ.made p hp' (by rw [getD_both (by omega) false true]; exact hd _ hpl) off x e)
  intro fuel
  induction fuel with
  | zero =>
    intro L a w g HL σL hJ hs hp hf
    refine hdone 0 L a w g HL σL hJ hs hp (fun i hi => ?_) (by omega)
    cases hh : L.getD i true with
    | true => rfl
    | false =>
      have : 0 < undone m L := List.length_pos_of_mem (a := i) (List.mem_filter.2 ⟨List.mem_range.2 hi, by simp [hh]⟩)
      omega
  | succ fuel ih =>
    intro L a w g HL σL hJ hs hp hf
    by_cases hall : ∃ j, j < m ∧ L.getD j true = false
    · obtain ⟨j, ⟨hj, hjL⟩, hleast⟩ := least_of hall
      have hjo : ops[j]? = some (ops[j]'(by omega)) := Array.getElem?_eq_getElem (by omega)
      have hready : j ∈ Region.ready .any ops L := by
        refine ready_of hjo hjL fun e he hbd => ?_
        have hb := h3
        unfold chkBack at hb
        rw [List.all_eq_true] at hb
        have hb2 := hb j (List.mem_range.2 (by omega))
        rw [hjo] at hb2
        simp only at hb2
        rw [← Array.all_toList, List.all_eq_true] at hb2
        have hb3 := hb2 e he
        simp only [hbd, Bool.not_true, Bool.false_or] at hb3
        have hlt : e.on < j := by simpa using hb3
        rw [getD_both (by omega) false true]
        cases hh : L.getD e.on true with
        | true => rfl
        | false => exact absurd (hleast e.on ⟨by omega, hh⟩) (by omega)
      refine ⟨fun h0 => (by rw [h0] at hready; cases hready), fun i hi => ?_⟩
      obtain ⟨o, ho, his, hiL, hedge⟩ := mem_ready hi
      have him : i < m := by
        refine Classical.byContradiction fun hge => ?_
        have hpst := h2
        unfold chkPost at hpst
        rw [List.all_eq_true] at hpst
        have h8 := hpst i (List.mem_range.2 his)
        rw [ho] at h8
        simp only [Bool.or_eq_true] at h8
        rcases h8 with h8 | h8
        · have : i < m := by simpa using h8
          omega
        · rw [List.all_eq_true] at h8
          have h9 := hasEdge_of (h8 j (List.mem_range.2 (by omega))) hedge
          rw [getD_both (by omega) false true, hjL] at h9
          cases h9
      have hfact := pre.facts hok i o (by rw [hget i him]; exact ho)
      rw [Nat.zero_add] at hfact
      refine hJ.step hm hs hH hn0 (fun p hp' => (hal p hp').2.2) hun ?_ ?_ him ho hiL ?_ hfact ?_
      · intro i o hi ho t ht i' o' hi' ho' ht'
        exact (okL_nodup hok i i' o o' t (by rw [hget i hi]; exact ho) (by rw [hget i' hi']; exact ho') ht ht').symm
      · intro i o hi ho t ht
        have hg := h4
        unfold chkG at hg
        rw [List.all_eq_true] at hg
        have hg2 := hg i (List.mem_range.2 hi)
        rw [ho] at hg2
        simp only at hg2
        rw [List.all_eq_true] at hg2
        simpa using hg2 t ht
      · intro t ht i' o' hi' ho' ht'
        have hd := h1
        unfold chkDep at hd
        rw [List.all_eq_true] at hd
        have hd2 := hd i (List.mem_range.2 him)
        rw [ho] at hd2
        simp only at hd2
        rw [List.all_eq_true] at hd2
        have hd3 := hd2 i' (List.mem_range.2 hi')
        rw [ho'] at hd3
        simp only [Option.bind_some, ht'] at hd3
        rw [if_pos (by rw [List.contains_eq_mem]; simpa using ht)] at hd3
        exact hasEdge_of hd3 hedge
      · intro a' w' g' HL' σL' hJ'
        refine ih _ a' w' g' HL' σL' hJ' (by simp [hs]) (fun q hq hqs => ?_) ?_
        · rw [getD_set (by omega), if_neg (by omega)]
          exact hp q hq hqs
        · have : undone m (L.setIfInBounds i true) + 1 ≤ undone m L := by
            refine filter_less (j := i) (fun q hq h => ?_) (List.mem_range.2 him) (by simp [hiL]) (by simp [getD_set (show i < L.size by omega)])
            rw [getD_set (by omega)] at h
            split at h
            · simp at h
            · exact h
          omega
    · refine hdone _ L a w g HL σL hJ hs hp (fun i hi => ?_) (by omega)
      cases hh : L.getD i true with
      | true => rfl
      | false => exact absurd ⟨i, hi, hh⟩ hall

/-- A region that draws its order: m operations that only answer, or make variables, in any order; the rest behind them, in the text's. -/
theorem awp_draw {id m n n' : Nat} {l : List Oper} {Q : Post} {σ σ' : List (Nat × AV)} {A' : List (Nat × Nat × AV)} {al : List (Nat × Nat × List AV)} (hmix : P.follows .mixedOrders = true) (hm : Nat.ble m l.length = true)
    (h1 : chkDep l.toArray m = true) (h2 : chkPost l.toArray m = true) (h3 : chkBack l.toArray = true) (h4 : chkG N l.toArray m = true) (hok : okL l.toArray (l.take m) = true) (hH : idsLt n H = true)
    (pre : Pre P N n0 l.toArray H O 0 (l.take m) σ n H σ' n' A' al) (k : aops P N n0 l.toArray (l.drop m) Q ⟨σ', A', O, n'⟩) : awp P N n0 (.region id l.toArray true) Q ⟨σ, H, O, n⟩ := by
  intro w0 g0 a w g hi
  obtain ⟨hnn, hal, hun, hA⟩ := pre.als
  have hle : m ≤ l.length := by simpa using hm
  refine wp_region_any hmix ?_
  have hp : PF w g.top { w with drawn := w.drawn + 1 } g.top := ⟨(Below.refl w.heap.size w).drew, fun _ _ => rfl, hi.wf.topNew⟩
  have hi1 := (hi.called hp).1
  have hblk : ∀ i, n ≤ i → g.blk i = none := fun i hn => by
    cases hb : g.blk i with
    | none => rfl
    | some b => have := (hi.wf.blkOwner _ _ hb).2.2.2; simp only at this; omega
  have hown : ∀ i, n ≤ i → g.own i = none := fun i hn => by
    cases hb : g.own i with
    | none => rfl
    | some b => have := hi.wf.ownLt _ _ hb; simp only at this; omega
  refine pre_run (nF := n') (σ := σ) (σ' := σ') (A' := A') (by simpa using hle) h1 h2 h3 h4 (by simpa using hok) (fun id off x hx => idsLt_lk hH id off x hx) hi.nle (by simpa using pre) (by simpa using k) _ _ a _ { g with top := g.top } H σ
    ⟨{ hi1 with
      wf := { hi1.wf with
        blkOwner := fun id b hb => by
          obtain ⟨k1, k2, k3, k4⟩ := hi1.wf.blkOwner id b hb
          exact ⟨k1, k2, k3, Nat.lt_of_lt_of_le k4 hnn⟩
        ownLt := fun id v hv => Nat.lt_of_lt_of_le (hi1.wf.ownLt id v hv) hnn
        idLt := fun b i hb => Nat.lt_of_lt_of_le (hi1.wf.idLt b i hb) hnn }
      nle := Nat.le_trans hi1.nle hnn }, ?_, fun _ _ _ h => h, ?_, fun p hp _ => ⟨hblk _ (hal p hp).2.2.1, hown _ (hal p hp).2.2.1⟩⟩ (by simp) ?_ ?_
  · intro t ht
    refine (pre.lk_same t fun o ho hd => ?_).symm
    obtain ⟨i, hi'⟩ := List.mem_iff_getElem?.1 ho
    rw [List.getElem?_take] at hi'
    split at hi'
    · rename_i him
      have := ht i o him (by simpa using hi') hd
      rw [Array.getD_eq_getD_getElem?] at this
      simp [Array.getElem?_replicate] at this
      split at this <;> simp at this
    · cases hi'
  · intro p hp hL
    rw [Array.getD_eq_getD_getElem?] at hL
    simp [Array.getElem?_replicate] at hL
    split at hL <;> simp at hL
  · intro i _ his
    rw [Array.getD_eq_getD_getElem?]
    simp at his
    simp [Array.getElem?_replicate, his]
  · have : undone m (Array.replicate l.toArray.size false) ≤ m := by
      unfold undone
      exact Nat.le_trans (List.length_filter_le _ _) (by simp)
    simp at hle ⊢
    simp at this
    omega

end
end Go.Pv
