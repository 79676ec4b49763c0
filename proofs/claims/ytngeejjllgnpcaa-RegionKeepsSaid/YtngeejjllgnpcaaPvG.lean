/- Calls of functions that touch no variable of the caller's; a function's body. -/
import Derived.Test.YtngeejjllgnpcaaPvF
namespace Go.Pv
open Go.RowKit (Below)
set_option linter.unusedSimpArgs false
set_option linter.unusedSectionVars false
set_option linter.unusedVariables false

/-- Is a call of function f an entry of its body? -/
def goes (P : Program) (f : FuncId) : Bool := (P.funcs[f]?).any fun fn => fn.body.isSome && !(fn.name == "runtime.NumGoroutine")

structure PF (w : World) (top : Nat → Nat) (w' : World) (top' : Nat → Nat) : Prop where
  below : Below w.heap.size w w'
  old : ∀ b, b < w.heap.size → top' b = top b
  new : ∀ b, w'.heap.size ≤ b → top' b = 0

/-- Called with such arguments, function f returns what K tells; nothing that was there is changed. -/
def PCall (P : Program) (f : FuncId) (args : List AV) (K : AV → Prop) : Prop :=
  goes P f = true ∧ ∀ w top vals, (∀ b, w.heap.size ≤ b → top b = 0) → RepL w (G.ofTop top) args vals →
    Calls P f vals.toArray w fun e w' => ∃ v r top', e = .returned v ∧ K r ∧ Rep w' (G.ofTop top') r v ∧ PF w top w' top'

theorem PCall.mono {P : Program} {f : FuncId} {args : List AV} {K K' : AV → Prop} (h : PCall P f args K) (hk : ∀ r, K r → K' r) : PCall P f args K' :=
  ⟨h.1, fun w top vals ht hr => (h.2 w top vals ht hr).mono fun e w' ⟨v, r, t, h1, h2, h3⟩ => ⟨v, r, t, h1, hk r h2, h3⟩⟩

theorem run_callFunc {P : Program} {f : FuncId} (h : goes P f = true) (args : Array Value) (w : World) : (callFunc f args).run P w = .ok (.enter f args) w := by
  unfold goes at h
  cases hf : P.funcs[f]? with
  | none => simp [hf] at h
  | some fn =>
    simp only [hf, Option.any_some, Bool.and_eq_true, Bool.not_eq_true'] at h
    have h1 : fn.body ≠ none := by intro e; simp [e] at h
    have h2 : fn.name ≠ "runtime.NumGoroutine" := by simpa using h.2
    simp [callFunc, hf, h1, h2]

section
variable {P : Program} {N n0 : Nat} {Q : Post} {s : St} {w0 : World} {g0 : G} {a : Act} {w : World} {g : G} {ops : Array Oper} {o : Oper} {rest : List Oper}

theorem Rep.up {x : AV} {v : Value} (h : Rep w (G.ofTop g.top) x v) : Rep w g x v :=
  Rep.mono x v (g := G.ofTop g.top) ⟨⟨fun _ => Nat.le_refl _, fun _ _ _ => rfl⟩, fun _ _ e => by simp [G.ofTop] at e, fun _ _ e => by simp [G.ofTop] at e, fun _ _ e => by simp [G.ofTop] at e⟩ h

theorem cut_zero (g : G) (hw : WF g w n0) : g.cut 0 = G.ofTop g.top := by
  simp only [G.cut, G.ofTop, Nat.not_lt_zero, if_false]
  congr 1
  funext b
  cases g.owner b <;> rfl

theorem Inv.called (h : Inv N n0 w0 g0 s a w g) {w' : World} {top' : Nat → Nat} (hp : PF w g.top w' top') :
    Inv N n0 w0 g0 s a w' { g with top := top' } ∧ Mono w (G.ofTop g.top) w' (G.ofTop top') := by
  have htop : ∀ b, g.top b ≤ top' b := fun b => by
    by_cases hb : b < w.heap.size
    · rw [hp.old b hb]; exact Nat.le_refl _
    · rw [h.wf.topNew b (by omega)]; exact Nat.zero_le _
  have hcell : ∀ b o, o < g.top b → w'.cell? ⟨b, o, none⟩ = w.cell? ⟨b, o, none⟩ := fun b o ho => hp.below.cell (p := ⟨b, o, none⟩) (h.wf.topLt ho)
  have hm : Mono w g w' { g with top := top' } := ⟨⟨htop, hcell⟩, fun _ _ e => e, fun _ _ e => e, fun _ _ _ => rfl⟩
  refine ⟨?_, ⟨⟨htop, hcell⟩, fun _ _ e => e, fun _ _ e => e, fun _ _ e => by simp [G.ofTop] at e⟩⟩
  exact {
    defers := h.defers
    size := h.size
    slots := fun t => (h.slots t).mono _ _ hm
    cells := fun id off x hx => by
      obtain ⟨b, c, e, hb, hw, v, hv, r⟩ := h.cells id off x hx
      exact ⟨b, c, e, hb, by rw [hp.below.block b (h.wf.blkOwner _ _ hb).2.1]; exact hw, v, hv, r.mono _ _ hm⟩
    owns := fun id K hx => Kind.keep (h.owns.at hx) ⟨hm, fun b hb => ⟨hp.below.block _ (h.wf.ownerLt hb), hb, hp.old _ (h.wf.ownerLt hb)⟩, fun b hb => hb⟩
    wf := {
      topNew := hp.new
      ownNew := fun b hb => h.wf.ownNew b (Nat.le_trans hp.below.size hb)
      blkOwner := fun id b hb => by
        obtain ⟨k1, k2, k3, k4⟩ := h.wf.blkOwner id b hb
        exact ⟨k1, Nat.lt_of_lt_of_le k2 hp.below.size, by rw [← k3]; exact hp.old _ k2, k4⟩
      ownLt := h.wf.ownLt
      ownSl := h.wf.ownSl
      sep := h.wf.sep
      idLt := h.wf.idLt }
    frame := {
      os := hp.below.os.trans h.frame.os
      tape := hp.below.tape.trans h.frame.tape
      output := hp.below.output.trans h.frame.output
      size := Nat.le_trans h.frame.size hp.below.size
      block := fun b hb ho => (hp.below.block b (Nat.lt_of_lt_of_le hb h.frame.size)).trans (h.frame.block b hb ho)
      foreign := fun b hb ho => by
        obtain ⟨k1, k2⟩ := h.frame.foreign b hb ho
        exact ⟨k1, (hp.old b (Nat.lt_of_lt_of_le hb h.frame.size)).trans k2⟩
      top := fun b => Nat.le_trans (h.frame.top b) (htop b)
      stable := fun b o ho => (hcell b o (Nat.lt_of_lt_of_le ho (h.frame.top b))).trans (h.frame.stable b o ho)
      blk := h.frame.blk
      own := h.frame.own
      wd := h.frame.wd }
    nle := h.nle }

/-- A call, by what is known of the callee. -/
theorem aops_call {fop : Operand} {args : Array Operand} {ats : Array TypeId} {f : FuncId} {caps : List AV} {K : AV → Prop} (hg : o.guard = none) (hop : o.op = .call ⟨.value fop, args, ats⟩)
    (hd : dOk N o.dst = true) (hf : ev s.σ fop = .fn f caps) (hc : limL 0 (args.toList.map (evs s) ++ caps) = true) (call : PCall P f (args.toList.map (evs s) ++ caps) K)
    (k : ∀ r, K r → aops P N n0 ops rest Q (s.put o.dst r)) : aops P N n0 ops (o :: rest) Q s := by
  intro w0 g0 a w g hi
  have hfr := rep_ev hi.slots fop
  rw [hf] at hfr
  obtain ⟨cs, hfe, hcs⟩ := hfr
  have hargs : RepL w g (args.toList.map (evs s) ++ caps) (args.toList.map a.eval ++ cs) := RepL.append (repL_map hi args.toList) hcs
  have hargs' := RepL.cut 0 _ _ hc hargs
  rw [cut_zero g hi.wf] at hargs'
  have hcall := call.2 w g.top _ hi.wf.topNew hargs'
  refine wpList_go hg ?_
  obtain ⟨dst, op, type, pos, after, guard⟩ := o
  subst hop
  have hrun : (execOp a.eval ⟨dst, .call ⟨.value fop, args, ats⟩, type, pos, after, guard⟩).run P w = .ok (.enter f (args.toList.map a.eval ++ cs).toArray) w := by
    have : (args.map a.eval ++ cs.toArray) = (args.toList.map a.eval ++ cs).toArray := by
      rw [map_toArray]; simp
    simp only [execOp, resolve, hfe, Deferred.ofValue, Sem.run_bind, Sem.run_pure, Result.andThen_ok, invoke]
    rw [show (#[] ++ args.map a.eval) = args.map a.eval by simp, this]
    exact run_callFunc call.1 _ w
  simp only [Oper.wp, hrun, Oper.upon]
  refine hcall.mono ?_
  rintro e w' ⟨v, r, top', rfl, hK, hr, hp⟩
  obtain ⟨hi', _⟩ := hi.called hp
  have hr' : Rep w' { g with top := top' } r v := Rep.up (g := { g with top := top' }) hr
  exact k r hK w0 g0 _ w' _ (hi'.put hr' hd)

/-! ### a body -/

def slotsOf (i : Nat) : List AV → List (Nat × AV)
  | [] => []
  | x :: r => (i, x) :: slotsOf (i + 1) r

theorem lk_slotsOf : ∀ (xs : List AV) (i t : Nat), lk (slotsOf i xs) t = if i ≤ t then (xs[t - i]?).getD .any else .any
  | [], i, t => by simp [slotsOf, lk]
  | x :: r, i, t => by
    simp only [slotsOf, lk, lk_slotsOf r]
    by_cases h : Nat.beq i t = true
    · have e : i = t := by simpa using h
      subst e
      simp
    · have e : i ≠ t := fun e => h (by simp [e])
      rw [if_neg h]
      by_cases h2 : i ≤ t
      · rw [if_pos h2, if_pos (by omega)]
        rw [show t - i = (t - (i + 1)) + 1 by omega]
        simp
      · rw [if_neg h2, if_neg (by omega)]

def resv1 (P : Program) [Tab P] (s : St) : ResultVar → Option AV
  | .tmp t => some (snap s.O (lk s.σ t))
  | .cell x t => match ti P t with
    | some i => match loadv s.H i (lk s.σ x) with
      | some y => some (snap s.O y)
      | none => none
    | none => none

def resL (P : Program) [Tab P] (s : St) : List ResultVar → Option (List AV)
  | [] => some []
  | x :: r => match resv1 P s x, resL P s r with
    | some y, some ys => some (y :: ys)
    | _, _ => none

def resv (P : Program) [Tab P] (s : St) (rs : List ResultVar) : Option AV :=
  match resL P s rs with
  | some [x] => some x
  | some xs => some (.tup xs)
  | none => none

def resM (tmps : Array Value) : ResultVar → Sem Value
  | .tmp t => pure (tmps.getD t undef)
  | .cell c t => do loadVar t (← asAddr (tmps.getD c undef))

theorem results_eq (fn : Func) (tmps : Array Value) : results fn tmps = (do let vs ← fn.results.mapM (resM tmps); pure (if h : vs.size = 1 then vs[0] else .tuple vs)) := by
  have : resM tmps = fun x => (match x with | .tmp t => pure (tmps.getD t undef) | .cell c t => do loadVar t (← asAddr (tmps.getD c undef)) : Sem Value) := by
    funext x; cases x <;> rfl
  unfold results
  rw [this]
  rfl

theorem resv1_sound [Tab P] (hi : Inv N n0 w0 g0 s a w g) {x : ResultVar} {y : AV} (h : resv1 P s x = some y) :
    ∃ v, (resM a.tmps x).run P w = .ok v w ∧ Rep w g y v := by
  cases x with
  | tmp t =>
    obtain rfl := Option.some.inj h
    exact ⟨_, rfl, rep_snap hi.owns (hi.slots t)⟩
  | cell c t =>
    simp only [resv1] at h
    cases ht : ti P t with
    | none => simp [ht] at h
    | some i =>
      simp only [ht] at h
      cases hl : loadv s.H i (lk s.σ c) with
      | none => simp [hl] at h
      | some z =>
        simp only [hl] at h
        obtain rfl := Option.some.inj h
        obtain ⟨inf, d, zz, h1⟩ := ti_tells ht
        obtain ⟨u, hu, hr⟩ := loadv_sound h1 hi.cells (hi.slots c) hl
        refine ⟨u, ?_, rep_snap hi.owns hr⟩
        have hptr : ∃ ad, a.tmps.getD c undef = .pointer (some ad) := by
          have hs := hi.slots c
          cases hx : lk s.σ c <;> rw [hx] at hl hs <;> simp only [loadv] at hl <;> first | (cases hl; done) | skip
          · obtain ⟨b, _, e⟩ := hs; exact ⟨_, e⟩
          · obtain ⟨b, o, e, _⟩ := hs; exact ⟨_, e⟩
        obtain ⟨ad, had⟩ := hptr
        rw [had] at hu
        simp only [resM, had]
        simpa [Instr.loadAt, Instr.sureAddr, asAddr] using hu

theorem resL_sound [Tab P] (hi : Inv N n0 w0 g0 s a w g) : ∀ {rs : List ResultVar} {ys : List AV}, resL P s rs = some ys →
    ∃ vs, (rs.mapM (resM a.tmps)).run P w = .ok vs w ∧ RepL w g ys vs
  | [], ys, h => by
    obtain rfl := Option.some.inj h
    exact ⟨[], rfl, rfl⟩
  | x :: rs, ys, h => by
    simp only [resL] at h
    cases h1 : resv1 P s x with
    | none => simp [h1] at h
    | some y =>
      cases h2 : resL P s rs with
      | none => simp [h1, h2] at h
      | some ys' =>
        simp only [h1, h2] at h
        obtain rfl := Option.some.inj h
        obtain ⟨v, hv, hr⟩ := resv1_sound hi h1
        obtain ⟨vs, hvs, hrs⟩ := resL_sound hi h2
        refine ⟨v :: vs, ?_, v, vs, rfl, hr, hrs⟩
        simp only [List.mapM_cons, Sem.run_bind, hv, Result.andThen_ok, hvs, Sem.run_pure]

theorem resv_sound [Tab P] (hi : Inv N n0 w0 g0 s a w g) {fn : Func} {r : AV} (h : resv P s fn.results.toList = some r) :
    ∃ v, (results fn a.tmps).run P w = .ok v w ∧ Rep w g r v := by
  unfold resv at h
  cases hl : resL P s fn.results.toList with
  | none => simp [hl] at h
  | some ys =>
    simp only [hl] at h
    obtain ⟨vs, hvs, hrs⟩ := resL_sound hi hl
    have hrun : (results fn a.tmps).run P w = .ok (if hh : vs.toArray.size = 1 then vs.toArray[0] else .tuple vs.toArray) w := by
      simp only [results_eq, Array.mapM_eq_mapM_toList, Sem.run_bind, Sem.run_map, hvs, Result.andThen_ok, Sem.run_pure]
    have hlen := hrs.length
    split at h
    · rename_i x hx
      obtain rfl := Option.some.inj hx
      obtain rfl := Option.some.inj h
      obtain ⟨v, _, rfl, hv, rfl⟩ := hrs
      exact ⟨v, by rw [hrun]; simp, hv⟩
    · rename_i xs hne hx
      obtain rfl := Option.some.inj hx
      obtain rfl := Option.some.inj h
      refine ⟨.tuple vs.toArray, ?_, vs, rfl, hrs⟩
      rw [hrun]
      have : vs.toArray.size ≠ 1 := by
        intro e
        have e1 : ys.length = 1 := by rw [← hlen]; simpa using e
        obtain ⟨x, rfl⟩ := List.length_eq_one_iff.1 e1
        exact hne x rfl
      rw [dif_neg this]
    · cases h

/-- What a body's end must tell. -/
def retPost (P : Program) [Tab P] (rs : List ResultVar) (K : AV → Prop) : Post
  | .normal, s | .ret, s => ∃ r, resv P s rs = some r ∧ r.lim 0 = true ∧ K r
  | _, _ => False

theorem pcall_body [Tab P] {f : FuncId} {fn : Func} {c : Code} {args : List AV} {K : AV → Prop} (hf : P.funcs[f]? = some fn) (hb : fn.body = some c) (hn : (fn.name == "runtime.NumGoroutine") = false)
    (hl : Nat.ble args.length fn.ntmps = true) (h : awp P fn.ntmps 0 c (retPost P fn.results.toList K) ⟨slotsOf 0 args, [], [], 0⟩) : PCall P f args K := by
  refine ⟨by simp [goes, hf, hb, hn], fun w top vals htop hr => ?_⟩
  have hlen := hr.length
  have hle : args.length ≤ fn.ntmps := by simpa using hl
  refine calls_of_wp hf hb (wp_mono (h w (G.ofTop top) _ w (G.ofTop top) ?_) ?_)
  · exact {
      defers := rfl
      size := by simp [hlen]; omega
      slots := fun t => by
        rw [lk_slotsOf]
        simp only [Nat.zero_le, if_true, Nat.sub_zero]
        cases hx : args[t]? with
        | none => trivial
        | some x =>
          obtain ⟨v, hv, rv⟩ := hr.get hx
          have hlt : t < vals.length := (List.getElem?_eq_some_iff.1 hv).1
          simp only [Option.getD_some]
          rw [Array.getD_eq_getD_getElem?, Array.getElem?_append_left (by simpa using hlt)]
          simpa [hv] using rv
      cells := fun id off x hx => by simp [lkH] at hx
      owns := fun id K hx => by simp [lkO] at hx
      wf := ⟨htop, fun _ _ => rfl, fun _ _ e => by simp [G.ofTop] at e, fun _ _ e => by simp [G.ofTop] at e, fun _ _ e => by simp [G.ofTop] at e, fun _ _ e => by simp [G.ofTop] at e, fun _ _ e => by simp [G.ofTop] at e⟩
      frame := Frame.refl _ _ _
      nle := Nat.le_refl _ }
  · rintro e a' w' ⟨s', g', hq, hi⟩
    have key : (∃ r, resv P s' fn.results.toList = some r ∧ r.lim 0 = true ∧ K r) → a'.defers = [] ∧ ∃ v, (results fn a'.tmps).run P w' = .ok v w' ∧
        ∃ v' r top', Ending.returned v = .returned v' ∧ K r ∧ Rep w' (G.ofTop top') r v' ∧ PF w top w' top' := by
      rintro ⟨r, h1, h2, h3⟩
      obtain ⟨v, hv, rv⟩ := resv_sound hi h1
      have rv' := Rep.cut 0 r v h2 rv
      rw [cut_zero g' hi.wf] at rv'
      exact ⟨hi.defers, v, hv, v, r, g'.top, rfl, h3, rv', hi.frame.below (fun _ => rfl), fun b hb => (hi.frame.foreign b hb rfl).2, hi.wf.topNew⟩
    cases e <;> first | exact hq.elim | exact key hq

end
end Go.Pv
