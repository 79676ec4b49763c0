/- The caller's rule for calls that are handed things; and a body of a function that is handed things. -/
import Derived.Test.YtngeejjllgnpcaaPvU
namespace Go.Pv
open Go.RowKit (Below)
set_option linter.unusedSimpArgs false
set_option linter.unusedSectionVars false
set_option linter.unusedVariables false

section
variable {w : World} {g : G} {n : Nat}

mutual
theorem Rep.lims (h : WF g w n) : ∀ (x : AV) (v : Value), Rep w g x v → x.lim n = true
  | .ptr id _, _, ⟨b, hb, _⟩ => by simp only [AV.lim, Nat.blt_eq]; exact (h.blkOwner id b hb).2.2.2
  | .own id, v, r => by simp only [AV.lim, Nat.blt_eq]; exact h.ownLt id v r
  | .eptr id _ _, _, ⟨ad, l, c, e, _⟩ => by simp only [AV.lim, Nat.blt_eq]; exact h.ownLt id _ e
  | .iface _ x, _, ⟨y, _, r⟩ => by simp only [AV.lim]; exact Rep.lims h x y r
  | .fn _ cs, _, ⟨vs, _, r⟩ => by simp only [AV.lim]; exact RepL.lims h cs vs r
  | .agg cs, _, ⟨vs, _, r⟩ => by simp only [AV.lim]; exact RepL.lims h cs vs r
  | .tup cs, _, ⟨vs, _, r⟩ => by simp only [AV.lim]; exact RepL.lims h cs vs r
  | .any, _, _ | .bool _, _, _ | .int _ _, _, _ | .str _, _, _ | .nilp, _, _ | .nilS, _, _ | .nilM, _, _ | .rd _, _, _ | .sl _, _, _ | .nilI, _, _ | .nilF, _, _ | .raw _, _, _ => rfl
theorem RepL.lims (h : WF g w n) : ∀ (xs : List AV) (vs : List Value), RepL w g xs vs → limL n xs = true
  | [], _, _ => rfl
  | x :: xs, _, ⟨v, vs', _, r, rest⟩ => by simp only [limL, Rep.lims h x v r, RepL.lims h xs vs' rest, Bool.and_self]
end

theorem limLL_of_flatten : ∀ {xs : List (List AV)}, limL n xs.flatten = true → limLL n xs = true
  | [], _ => rfl
  | x :: xs, h => by
    simp only [List.flatten_cons, limL_append, Bool.and_eq_true] at h
    simp only [limLL, h.1, limLL_of_flatten h.2, Bool.and_self]

theorem Kind.lims (h : WF g w n) {id : Nat} {K : Kind} (hk : K.holds id w g) : K.lim n = true := by
  cases K with
  | row z xs => rfl
  | wr z xs =>
    obtain ⟨_, _, a, cap, _, h3, h4, h5⟩ := hk
    cases a with
    | none => rw [(h4 rfl).1]; rfl
    | some ad =>
      obtain ⟨_, _, vs, r, _⟩ := h5 ad rfl
      exact limLL_of_flatten (RepL.lims h _ _ r)
  | map ks vs =>
    obtain ⟨b, es, clock, _, _, _, _, h1, h2⟩ := hk
    simp only [Kind.lim, RepL.lims h _ _ h1, RepL.lims h _ _ h2, Bool.and_self]
  | sem s => rfl
end

section
variable {P : Program} {N n0 : Nat} {Q : Post} {s s' : St} {w0 : World} {g0 : G} {a : Act} {w : World} {g : G} {ops : Array Oper} {o : Oper} {rest : List Oper} {L : List Nat}

theorem back_owned {gc : G} {w' : World} {n n' : Nat} (hg : good n L = true) (hw : WF g w n) (hwc : WF gc w' n') (hf : Frame w (handed g L) L.length w' gc) (hn : L.length ≤ n') :
    Owned (rho L n) n' gc (back g gc L n) := by
  intro j hj b
  have hm : ∀ i, g.owner b = some i → (idx L i).isSome = false → ∀ j, i ≠ rho L n j ∨ ¬ j < L.length := by
    intro i hi hx j
    by_cases h : j < L.length
    · left
      intro e
      have := get_idx hg (rho_lt (n := n) h)
      rw [← e] at this
      simp [this] at hx
    · exact .inr h
  simp only [back]
  cases hc : gc.owner b with
  | some k =>
    simp only [Option.some.injEq]
    exact ⟨fun e => rho_inj hg e, fun e => by rw [e]⟩
  | none =>
    simp only [reduceCtorEq, iff_false]
    cases ho : g.owner b with
    | none => simp
    | some i =>
      simp only
      cases hx : (idx L i).isSome with
      | true => simp
      | false =>
        simp only [Bool.false_eq_true, if_false, Option.some.injEq]
        intro e
        rcases hm i ho hx j with h | h
        · exact h e
        · rw [rho_ge (by omega)] at e
          have := hw.idLt b i ho
          omega

/-- What an argument is to a callee that is handed L: rows that are not handed are told as what they hold. -/
def evx (s : St) (L : List Nat) (x : Operand) : AV := snap (dropO L s.O) (ev s.σ x)

theorem RelO.drop {O : List (Nat × Kind)} (h : RelO O w g) : RelO (dropO L O) w g := fun _ _ hx => h.at (lkO_dropO hx).1

theorem repL_mapx (hi : Inv N n0 w0 g0 s a w g) : ∀ l : List Operand, RepL w g (l.map (evx s L)) (l.map a.eval)
  | [] => rfl
  | x :: l => ⟨_, _, rfl, rep_snap hi.owns.drop (rep_ev hi.slots x), repL_mapx hi l⟩

theorem renL_any {n : Nat} : ∀ xs : List AV, limL L.length xs = true → renL (rho L n) xs = renL (rho L 0) xs
  | [], _ => rfl
  | x :: xs, hl => by
    simp only [limL, Bool.and_eq_true] at hl
    simp only [renL, rho0 x hl.1, renL_any xs hl.2]

/-- What is known behind a call that was handed L. -/
theorem Inv.acalled (hi : Inv N n0 w0 g0 s a w g) (hg : good s.n L = true) {w' : World} {gc : G} {H' : List (Nat × Nat × AV)} {O' : List (Nat × Kind)} {n' : Nat}
    (hH : RelH H' w' gc) (hO : RelO O' w' gc) (hwc : WF gc w' n') (hn : L.length ≤ n') (hf : Frame w (handed g L) L.length w' gc) :
    Inv N n0 w0 g0 ⟨s.σ, renH (rho L s.n) H' ++ dropH L s.H, renO (rho L s.n) O' ++ dropO L s.O, s.n + (n' - L.length)⟩ a w' (back g gc L s.n) := by
  have hm := back_mono hg hi.wf hwc hf hn
  have hR := back_ren hg hi.wf hwc hf hn
  have hOw := back_owned hg hi.wf hwc hf hn
  have hinj : ∀ j k, rho L s.n k = rho L s.n j → k = j := fun j k e => rho_inj hg e
  exact {
    defers := hi.defers
    size := hi.size
    slots := fun t => (hi.slots t).mono _ _ hm
    cells := fun i p x hx => by
      rcases lkH_append hx with hx | hx
      · obtain ⟨j, y, _, rfl, rfl, hy⟩ := lkH_renH hx
        obtain ⟨b, c, e, hb, hw, v, hv, r⟩ := hH j p y (hy (hinj j))
        have hj := (hwc.blkOwner j b hb).2.2.2
        exact ⟨b, c, e, by rw [hR.blk j hj]; exact hb, hw, v, hv, (Rep.ren hR y v (Rep.lims hwc y v r)).2 r⟩
      · obtain ⟨hx, hi'⟩ := lkH_dropH hx
        obtain ⟨b, c, e, hb, hw, v, hv, r⟩ := hi.cells i p x hx
        obtain ⟨k1, k2, _, k4⟩ := hi.wf.blkOwner i b hb
        obtain ⟨_, _, q3, _⟩ := back_own_none hg hi.wf hwc hf hn k1 hi' k2
        exact ⟨b, c, e, hm.blk _ _ hb, by rw [q3]; exact hw, v, hv, r.mono _ _ hm⟩
    owns := fun i K hx => by
      rcases lkO_append hx with hx | hx
      · obtain ⟨j, y, rfl, rfl, hy⟩ := lkO_renO hx
        have hk := hO.at (hy (hinj j))
        obtain ⟨v, hv⟩ := Kind.own_some hk
        exact (Kind.ren_iff hR hOw (hwc.ownLt j v hv) (Kind.lims hwc hk)).2 hk
      · obtain ⟨hx, hi'⟩ := lkO_dropO hx
        have hk := hi.owns.at hx
        obtain ⟨v, hv⟩ := Kind.own_some hk
        have hlt := hi.wf.ownLt i v hv
        refine Kind.keep hk ⟨hm, fun b hb => ?_, fun b hb => ?_⟩
        · obtain ⟨q1, q2, q3, q4⟩ := back_own_none hg hi.wf hwc hf hn hb hi' (hi.wf.ownerLt hb)
          exact ⟨q3, q4, q2⟩
        · simp only [back] at hb
          cases hc : gc.owner b with
          | some j =>
            simp only [hc, Option.some.injEq] at hb
            exfalso
            by_cases hj : j < L.length
            · have := get_idx hg (rho_lt (n := s.n) hj)
              rw [hb, hi'] at this; cases this
            · rw [rho_ge (by omega)] at hb; omega
          | none =>
            simp only [hc] at hb
            cases ho : g.owner b with
            | none => simp [ho] at hb
            | some j =>
              simp only [ho] at hb
              split at hb
              · cases hb
              · exact hb
    wf := back_wf hg hi.wf hwc hf hn
    frame := back_frame hg hi.wf hwc hf hn hi.frame hi.nle
    nle := Nat.le_trans hi.nle (Nat.le_add_right _ _) }

/-- A call that is handed the things L. -/
theorem aops_acall (L : List Nat) {fop : Operand} {args : Array Operand} {ats : Array TypeId} {f : FuncId} {caps cargs : List AV} {Hc : List (Nat × Nat × AV)} {Oc : List (Nat × Kind)}
    {K : AV → List (Nat × Nat × AV) → List (Nat × Kind) → Nat → Prop} (hgd : o.guard = none) (hop : o.op = .call ⟨.value fop, args, ats⟩) (hd : dOk N o.dst = true) (hf : ev s.σ fop = .fn f caps)
    (hL : good s.n L = true) (ha : args.toList.map (evx s L) ++ caps = renL (rho L 0) cargs) (hal : limL L.length cargs = true) (hH : SubHR s.H s.O L Hc) (hO : SubOR s.O L Oc)
    (call : ACall P f L.length cargs Hc Oc K)
    (k : ∀ r H' O' n', K r H' O' n' → aops P N n0 ops rest Q (St.put ⟨s.σ, renH (rho L s.n) H' ++ dropH L s.H, renO (rho L s.n) O' ++ dropO L s.O, s.n + (n' - L.length)⟩ o.dst (r.ren (rho L s.n)))) :
    aops P N n0 ops (o :: rest) Q s := by
  intro w0 g0 a w g hi
  have hfr := rep_ev hi.slots fop
  rw [hf] at hfr
  obtain ⟨cs, hfe, hcs⟩ := hfr
  have hargs : RepL w g (args.toList.map (evx s L) ++ caps) (args.toList.map a.eval ++ cs) := RepL.append (repL_mapx hi args.toList) hcs
  rw [ha] at hargs
  have hargs' := (RepL.ren (handed_ren0 (s := s) hL) _ _ hal).1 hargs
  have hcall := call.2 w (handed g L) _ (handed_wf hL hi.wf) hargs' (hi.cells.handed hi.owns hL hH) (hi.owns.handed hL hO)
  refine wpList_go hgd ?_
  obtain ⟨dst, op, type, pos, after, guard⟩ := o
  subst hop
  have hrun : (execOp a.eval ⟨dst, .call ⟨.value fop, args, ats⟩, type, pos, after, guard⟩).run P w = .ok (.enter f (args.toList.map a.eval ++ cs).toArray) w := by
    have : (args.map a.eval ++ cs.toArray) = (args.toList.map a.eval ++ cs).toArray := by
      rw [map_toArray]; simp
    simp only [execOp, resolve, hfe, Deferred.ofValue, Sem.run_bind, Sem.run_pure, Result.andThen_ok, invoke]
    rw [show (#[] ++ args.map a.eval) = args.map a.eval by simp, this]
    exact run_callFunc call.1 _ w
  simp only [Oper.wp, hrun, Oper.upon]
  refine hcall.mono ?_
  rintro e w' ⟨v, r, H', O', n', gc, rfl, hK, hr, hH', hO', hwc, hn, hfm⟩
  have hi' := hi.acalled hL hH' hO' hwc hn hfm
  have hr' : Rep w' (back g gc L s.n) (r.ren (rho L s.n)) v := (Rep.ren (back_ren hL hi.wf hwc hfm hn) r v (Rep.lims hwc r v hr)).2 hr
  exact k r H' O' n' hK w0 g0 _ w' _ (hi'.put hr' hd)

/-! ### a body -/

def resl1 (P : Program) [Tab P] (s : St) : ResultVar → Option AV
  | .tmp t => some (lk s.σ t)
  | .cell c t => match ti P t with
    | some i => loadv s.H i (lk s.σ c)
    | none => none

def resLL (P : Program) [Tab P] (s : St) : List ResultVar → Option (List AV)
  | [] => some []
  | x :: r => match resl1 P s x, resLL P s r with
    | some y, some ys => some (y :: ys)
    | _, _ => none

/-- The answer as it stands: rows of the call's own stay such. -/
def resO (P : Program) [Tab P] (s : St) (rs : List ResultVar) : Option AV :=
  match resLL P s rs with
  | some [x] => some x
  | some xs => some (.tup xs)
  | none => none

theorem resl1_sound [Tab P] (hi : Inv N n0 w0 g0 s a w g) {x : ResultVar} {y : AV} (h : resl1 P s x = some y) :
    ∃ v, (resM a.tmps x).run P w = .ok v w ∧ Rep w g y v := by
  cases x with
  | tmp t =>
    obtain rfl := Option.some.inj h
    exact ⟨_, rfl, hi.slots t⟩
  | cell c t =>
    simp only [resl1] at h
    cases ht : ti P t with
    | none => simp [ht] at h
    | some i =>
      simp only [ht] at h
      obtain ⟨inf, d, zz, h1⟩ := ti_tells ht
      obtain ⟨u, hu, hr⟩ := loadv_sound h1 hi.cells (hi.slots c) h
      refine ⟨u, ?_, hr⟩
      have hptr : ∃ ad, a.tmps.getD c undef = .pointer (some ad) := by
        have hs := hi.slots c
        cases hx : lk s.σ c <;> rw [hx] at h hs <;> simp only [loadv] at h <;> first | (cases h; done) | skip
        · obtain ⟨b, _, e⟩ := hs; exact ⟨_, e⟩
        · obtain ⟨b, o, e, _⟩ := hs; exact ⟨_, e⟩
      obtain ⟨ad, had⟩ := hptr
      rw [had] at hu
      simp only [resM, had]
      simpa [Instr.loadAt, Instr.sureAddr, asAddr] using hu

theorem resLL_sound [Tab P] (hi : Inv N n0 w0 g0 s a w g) : ∀ {rs : List ResultVar} {ys : List AV}, resLL P s rs = some ys →
    ∃ vs, (rs.mapM (resM a.tmps)).run P w = .ok vs w ∧ RepL w g ys vs
  | [], ys, h => by
    obtain rfl := Option.some.inj h
    exact ⟨[], rfl, rfl⟩
  | x :: rs, ys, h => by
    simp only [resLL] at h
    cases h1 : resl1 P s x with
    | none => simp [h1] at h
    | some y =>
      cases h2 : resLL P s rs with
      | none => simp [h1, h2] at h
      | some ys' =>
        simp only [h1, h2] at h
        obtain rfl := Option.some.inj h
        obtain ⟨v, hv, hr⟩ := resl1_sound hi h1
        obtain ⟨vs, hvs, hrs⟩ := resLL_sound hi h2
        refine ⟨v :: vs, ?_, v, vs, rfl, hr, hrs⟩
        simp only [List.mapM_cons, Sem.run_bind, hv, Result.andThen_ok, hvs, Sem.run_pure]

theorem resO_sound [Tab P] (hi : Inv N n0 w0 g0 s a w g) {fn : Func} {r : AV} (h : resO P s fn.results.toList = some r) :
    ∃ v, (results fn a.tmps).run P w = .ok v w ∧ Rep w g r v := by
  unfold resO at h
  cases hl : resLL P s fn.results.toList with
  | none => simp [hl] at h
  | some ys =>
    simp only [hl] at h
    obtain ⟨vs, hvs, hrs⟩ := resLL_sound hi hl
    have hrun : (results fn a.tmps).run P w = .ok (if hh : vs.toArray.size = 1 then vs.toArray[0] else .tuple vs.toArray) w := by
      simp only [results_eq, Array.mapM_eq_mapM_toList, Sem.run_bind, Sem.run_map, hvs, Result.andThen_ok, Sem.run_pure]
    have hlen := hrs.length
    split at h
    · rename_i x hx
      obtain rfl := Option.some.inj hx
      obtain rfl := Option.some.inj h
      obtain ⟨v, _, rfl, hv, rfl⟩ := hrs
      exact ⟨v, by rw [hrun]; simp, hv⟩
    · rename_i xs hne hx
      obtain rfl := Option.some.inj hx
      obtain rfl := Option.some.inj h
      refine ⟨.tuple vs.toArray, ?_, vs, rfl, hrs⟩
      rw [hrun]
      have : vs.toArray.size ≠ 1 := by
        intro e
        have e1 : ys.length = 1 := by rw [← hlen]; simpa using e
        obtain ⟨x, rfl⟩ := List.length_eq_one_iff.1 e1
        exact hne x rfl
      rw [dif_neg this]
    · cases h

/-- What the end of a body that was handed m things must tell: numbered anew (L), what is left is as K says. -/
def retPostA (P : Program) [Tab P] (m : Nat) (rs : List ResultVar) (K : AV → List (Nat × Nat × AV) → List (Nat × Kind) → Nat → Prop) : Post
  | .normal, s | .ret, s => ∃ r L s', (resv P s rs = some (r.ren (rho L 0)) ∨ resO P s rs = some (r.ren (rho L 0))) ∧ r.lim L.length = true ∧ keepsTo m L 0 = true ∧ SubR L s s' ∧ K r s'.H s'.O s'.n
  | _, _ => False

theorem acall_body [Tab P] {f : FuncId} {fn : Func} {c : Code} {m : Nat} {args : List AV} {H : List (Nat × Nat × AV)} {O : List (Nat × Kind)} {K : AV → List (Nat × Nat × AV) → List (Nat × Kind) → Nat → Prop}
    (hf : P.funcs[f]? = some fn) (hb : fn.body = some c) (hn : (fn.name == "runtime.NumGoroutine") = false)
    (hl : Nat.ble args.length fn.ntmps = true) (h : awp P fn.ntmps m c (retPostA P m fn.results.toList K) ⟨slotsOf 0 args, H, O, m⟩) : ACall P f m args H O K := by
  refine ⟨by simp [goes, hf, hb, hn], fun w g vals hwf hr hH hO => ?_⟩
  have hlen := hr.length
  have hle : args.length ≤ fn.ntmps := by simpa using hl
  refine calls_of_wp hf hb (wp_mono (h w g _ w g ?_) ?_)
  · exact {
      defers := rfl
      size := by simp [hlen]; omega
      slots := fun t => by
        rw [lk_slotsOf]
        simp only [Nat.zero_le, if_true, Nat.sub_zero]
        cases hx : args[t]? with
        | none => trivial
        | some x =>
          obtain ⟨v, hv, rv⟩ := hr.get hx
          have hlt : t < vals.length := (List.getElem?_eq_some_iff.1 hv).1
          simp only [Option.getD_some]
          rw [Array.getD_eq_getD_getElem?, Array.getElem?_append_left (by simpa using hlt)]
          simpa [hv] using rv
      cells := hH
      owns := hO
      wf := hwf
      frame := Frame.refl _ _ _
      nle := Nat.le_refl _ }
  · rintro e a' w' ⟨s₁, g', hq, hi⟩
    have key : (∃ r L s', (resv P s₁ fn.results.toList = some (r.ren (rho L 0)) ∨ resO P s₁ fn.results.toList = some (r.ren (rho L 0))) ∧ r.lim L.length = true ∧ keepsTo m L 0 = true ∧ SubR L s₁ s' ∧ K r s'.H s'.O s'.n) →
        a'.defers = [] ∧ ∃ v, (results fn a'.tmps).run P w' = .ok v w' ∧
        ∃ v' r H' O' n' g', Ending.returned v = .returned v' ∧ K r H' O' n' ∧ Rep w' g' r v' ∧ RelH H' w' g' ∧ RelO O' w' g' ∧ WF g' w' n' ∧ m ≤ n' ∧ Frame w g m w' g' := by
      rintro ⟨r, L, s', h1, h2, h3, h4, h5⟩
      have hv : ∃ v, (results fn a'.tmps).run P w' = .ok v w' ∧ Rep w' g' (r.ren (rho L 0)) v := by
        rcases h1 with h1 | h1
        · exact resv_sound hi h1
        · exact resO_sound hi h1
      obtain ⟨v, hv, rv⟩ := hv
      have hi' := hi.ren h4 h3
      exact ⟨hi.defers, v, hv, v, r, s'.H, s'.O, s'.n, handed g' L, rfl, h5, (Rep.ren (handed_ren0 (s := s₁) h4.g) r v h2).1 rv, hi'.cells, hi'.owns, hi'.wf, hi'.nle, hi'.frame⟩
    cases e <;> first | exact hq.elim | exact key hq

end

/-! ### as a walk applies them -/

section
variable {P : Program} [Tab P] {N n0 : Nat} {Q : Post} {ops : Array Oper} {rest : List Oper} {σ : List (Nat × AV)} {H A : List (Nat × Nat × AV)} {O : List (Nat × Kind)} {n i : Nat}
  {d : Nat} {ty : TypeId} {pos : String} {af : Array Edge} {gd : Option (Nat × Bool)}

/-- A call that is handed the things L. -/
theorem rh (L : List Nat) {fop : Operand} {args : Array Operand} {ats : Array TypeId} {f : FuncId} {caps cargs : List AV} {Hc : List (Nat × Nat × AV)} {Oc : List (Nat × Kind)}
    {K : AV → List (Nat × Nat × AV) → List (Nat × Kind) → Nat → Prop} (hd : Nat.blt d N = true) (hf : ev σ fop = .fn f caps) (call : ACall P f L.length cargs Hc Oc K)
    (hL : good n L = true) (ha : args.toList.map (evx ⟨σ, H, O, n⟩ L) ++ caps = renL (rho L 0) cargs) (hal : limL L.length cargs = true) (hH : SubHR H O L Hc) (hO : SubOR O L Oc)
    (k : ∀ r H' O' n', K r H' O' n' → aops P N n0 ops rest Q ⟨(d, r.ren (rho L n)) :: σ, renH (rho L n) H' ++ dropH L H, renO (rho L n) O' ++ dropO L O, n + (n' - L.length)⟩) :
    aops P N n0 ops (⟨some d, .call ⟨.value fop, args, ats⟩, ty, pos, af, none⟩ :: rest) Q ⟨σ, H, O, n⟩ :=
  aops_acall L rfl rfl hd hf hL ha hal hH hO call k

end
end Go.Pv
