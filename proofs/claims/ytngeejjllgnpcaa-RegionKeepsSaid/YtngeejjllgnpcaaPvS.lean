/- Calls of function values that only read the variables which they hold: for the time of the call these variables are rows that stand still. -/
import Derived.Test.YtngeejjllgnpcaaPvR
namespace Go.Pv
set_option linter.unusedSimpArgs false
set_option linter.unusedSectionVars false
set_option linter.unusedVariables false

def cellsH (H : List (Nat × Nat × AV)) (id : Nat) : Nat → Nat → List AV
  | 0, _ => []
  | k + 1, off => match lkH H id off with
    | some x => x :: cellsH H id k (off + 1)
    | none => []

/-- What a caller's content is to a callee that only reads. -/
def frz (H : List (Nat × Nat × AV)) : Nat → AV → AV
  | 0, _ => .any
  | k + 1, .ptr id off => .rd ((cellsH H id 24 off).map (frz H k))
  | k + 1, .fn f cs => .fn f (cs.map (frz H k))
  | k + 1, .agg cs => .agg (cs.map (frz H k))
  | k + 1, .tup cs => .tup (cs.map (frz H k))
  | k + 1, .iface t x => .iface t (frz H k x)
  | _ + 1, .own _ => .any
  | _ + 1, .eptr _ _ _ => .any
  | _ + 1, x => x

mutual
def flat : AV → Bool
  | .ptr _ _ | .own _ | .rd _ | .sl _ | .eptr _ _ _ => false
  | .iface _ x => flat x
  | .fn _ cs | .agg cs | .tup cs => flatL cs
  | _ => true
def flatL : List AV → Bool
  | [] => true
  | x :: r => flat x && flatL r
end

mutual
theorem Rep.flat {w w' : World} {g g' : G} : ∀ (x : AV) (v : Value), Go.Pv.flat x = true → Rep w g x v → Rep w' g' x v
  | .any, _, _, _ => trivial
  | .bool _, _, _, r => r
  | .int _ _, _, _, r => r
  | .str _, _, _, r => r
  | .nilp, _, _, r => r
  | .nilS, _, _, r => r
  | .nilM, _, _, r => r
  | .ptr _ _, _, h, _ => by simp [Go.Pv.flat] at h
  | .rd _, _, h, _ => by simp [Go.Pv.flat] at h
  | .sl _, _, h, _ => by simp [Go.Pv.flat] at h
  | .own _, _, h, _ => by simp [Go.Pv.flat] at h
  | .eptr _ _ _, _, h, _ => by simp [Go.Pv.flat] at h
  | .raw _, _, _, r => r
  | .nilI, _, _, r => r
  | .iface _ x, _, h, ⟨y, e, r⟩ => ⟨y, e, Rep.flat x y (by simpa [Go.Pv.flat] using h) r⟩
  | .nilF, _, _, r => r
  | .fn _ cs, _, h, ⟨vs, e, r⟩ => ⟨vs, e, RepL.flat cs vs (by simpa [Go.Pv.flat] using h) r⟩
  | .agg cs, _, h, ⟨vs, e, r⟩ => ⟨vs, e, RepL.flat cs vs (by simpa [Go.Pv.flat] using h) r⟩
  | .tup cs, _, h, ⟨vs, e, r⟩ => ⟨vs, e, RepL.flat cs vs (by simpa [Go.Pv.flat] using h) r⟩
theorem RepL.flat {w w' : World} {g g' : G} : ∀ (xs : List AV) (vs : List Value), flatL xs = true → RepL w g xs vs → RepL w' g' xs vs
  | [], _, _, r => r
  | x :: xs, _, h, ⟨v, vs', e, r, rest⟩ => by
    simp only [flatL, Bool.and_eq_true] at h
    exact ⟨v, vs', e, Rep.flat x v h.1 r, RepL.flat xs vs' h.2 rest⟩
end

def stTop (w : World) (top : Nat → Nat) : Nat → Nat := fun b => max (top b) (fullTop w b)

section
variable {w : World} {g : G} {H : List (Nat × Nat × AV)}

theorem stTop_mono : MonoT w g.top w (stTop w g.top) := ⟨fun b => Nat.le_max_left _ _, fun _ _ _ => rfl⟩

theorem repL_mapF {f : AV → AV} {g' : G} : ∀ {xs : List AV} {vs : List Value}, (∀ x v, Rep w g x v → Rep w g' (f x) v) → RepL w g xs vs → RepL w g' (xs.map f) vs
  | [], _, _, h => h
  | x :: xs, _, hf, ⟨v, vs', e, r, rest⟩ => ⟨v, vs', e, hf x v r, repL_mapF hf rest⟩

theorem cellsH_rep {b : Nat} {f : AV → AV} (hH : RelH H w g) (hf : ∀ x v, Rep w g x v → Rep w (G.ofTop (stTop w g.top)) (f x) v) {id : Nat} (hb : g.blk id = some b) :
    ∀ (k off : Nat), RepAt w (stTop w g.top) b off ((cellsH H id k off).map f)
  | 0, _ => by simp [cellsH, RepAt]
  | k + 1, off => by
    simp only [cellsH]
    cases hl : lkH H id off with
    | none => simp [RepAt]
    | some x =>
      obtain ⟨b', c, e, hb', hw, v, hv, r⟩ := hH id off x hl
      rw [hb] at hb'
      obtain rfl := Option.some.inj hb'
      have hlt : off < c.size := (Array.getElem?_eq_some_iff.1 hv).1
      refine ⟨⟨?_, v, ?_, hf x v r⟩, cellsH_rep hH hf hb k (off + 1)⟩
      · have : fullTop w b = c.size := by simp [fullTop, hw]
        simp only [stTop, this]; omega
      · simp [World.cell?, hw, hv]

theorem frz_rep (hH : RelH H w g) : ∀ (k : Nat) (x : AV) (v : Value), Rep w g x v → Rep w (G.ofTop (stTop w g.top)) (frz H k x) v
  | 0, _, _, _ => trivial
  | k + 1, x, v, h => by
    have ih := frz_rep hH k
    cases x with
    | ptr id off =>
      obtain ⟨b, hb, rfl⟩ := h
      exact ⟨b, off, rfl, cellsH_rep hH ih hb 24 off⟩
    | fn f cs => obtain ⟨vs, e, r⟩ := h; exact ⟨vs, e, repL_mapF ih r⟩
    | agg cs => obtain ⟨vs, e, r⟩ := h; exact ⟨vs, e, repL_mapF ih r⟩
    | tup cs => obtain ⟨vs, e, r⟩ := h; exact ⟨vs, e, repL_mapF ih r⟩
    | iface t y => obtain ⟨u, e, r⟩ := h; exact ⟨u, e, ih y u r⟩
    | own id => trivial
    | eptr _ _ _ => trivial
    | raw v => exact h
    | rd cs => obtain ⟨b, o, e, r⟩ := h; exact ⟨b, o, e, RepAt.mono cs b o stTop_mono r⟩
    | sl xs => obtain ⟨a, cap, e, hc, hn, hr⟩ := h; exact ⟨a, cap, e, hc, hn, fun ad ha => ⟨(hr ad ha).1, RepRows.mono xs _ _ stTop_mono (hr ad ha).2⟩⟩
    | any => trivial
    | bool b => exact h
    | int k n => exact h
    | str s => exact h
    | nilp => exact h
    | nilS => exact h
    | nilM => exact h
    | nilI => exact h
    | nilF => exact h
end

/-- What the world is behind a call that read with more standing still than there is. -/
def lowTop (w : World) (top top' : Nat → Nat) : Nat → Nat := fun b => if b < w.heap.size then top b else top' b

theorem PF.low {w w' : World} {top top' : Nat → Nat} (h : PF w (stTop w top) w' top') : PF w top w' (lowTop w top top') where
  below := h.below
  old b hb := by simp [lowTop, hb]
  new b hb := by
    have : ¬ b < w.heap.size := by have := h.below.size; omega
    simp [lowTop, this, h.new b hb]

section
variable {P : Program} {N n0 : Nat} {Q : Post} {s : St} {w0 : World} {g0 : G} {a : Act} {w : World} {g : G} {ops : Array Oper} {o : Oper} {rest : List Oper}

theorem step_callF {fop : Operand} {args : Array Operand} {ats : Array TypeId} {f : FuncId} {caps : List AV} {v : AV} (hop : o.op = .call ⟨.value fop, args, ats⟩)
    (hf : ev s.σ fop = .fn f caps) (call : PCall P f ((args.toList.map (evs s) ++ caps).map (frz s.H 8)) (· = v)) (hv : flat v = true) : Step P N n0 s o v := by
  intro w0 g0 a w g hi Q
  have hfr := rep_ev hi.slots fop
  rw [hf] at hfr
  obtain ⟨cs, hfe, hcs⟩ := hfr
  have hargs : RepL w g (args.toList.map (evs s) ++ caps) (args.toList.map a.eval ++ cs) := RepL.append (repL_map hi args.toList) hcs
  have hargs' := repL_mapF (frz_rep hi.cells 8) hargs
  have hcall := call.2 w (stTop w g.top) _ (fun b hb => by simp [stTop, hi.wf.topNew b hb, fullTop_new w b hb]) hargs'
  obtain ⟨dst, op, type, pos, after, guard⟩ := o
  subst hop
  have hrun : (execOp a.eval ⟨dst, .call ⟨.value fop, args, ats⟩, type, pos, after, guard⟩).run P w = .ok (.enter f (args.toList.map a.eval ++ cs).toArray) w := by
    have : (args.map a.eval ++ cs.toArray) = (args.toList.map a.eval ++ cs).toArray := by
      rw [map_toArray]; simp
    simp only [execOp, resolve, hfe, Deferred.ofValue, Sem.run_bind, Sem.run_pure, Result.andThen_ok, invoke]
    rw [show (#[] ++ args.map a.eval) = args.map a.eval by simp, this]
    exact run_callFunc call.1 _ w
  simp only [Oper.wp, hrun, Oper.upon]
  refine hcall.mono ?_
  rintro e w' ⟨u, r, top', rfl, rfl, hr, hp⟩
  exact ⟨u, lowTop w g.top top', rfl, Rep.flat _ _ hv hr, hp.low⟩

theorem aops_callF {fop : Operand} {args : Array Operand} {ats : Array TypeId} {f : FuncId} {caps : List AV} {K : AV → Prop} (hg : o.guard = none) (hop : o.op = .call ⟨.value fop, args, ats⟩)
    (hd : dOk N o.dst = true) (hf : ev s.σ fop = .fn f caps) (call : PCall P f ((args.toList.map (evs s) ++ caps).map (frz s.H 8)) K) (hK : ∀ r, K r → flat r = true)
    (k : ∀ r, K r → aops P N n0 ops rest Q (s.put o.dst r)) : aops P N n0 ops (o :: rest) Q s := by
  intro w0 g0 a w g hi
  have hfr := rep_ev hi.slots fop
  rw [hf] at hfr
  obtain ⟨cs, hfe, hcs⟩ := hfr
  have hargs : RepL w g (args.toList.map (evs s) ++ caps) (args.toList.map a.eval ++ cs) := RepL.append (repL_map hi args.toList) hcs
  have hargs' := repL_mapF (frz_rep hi.cells 8) hargs
  have hcall := call.2 w (stTop w g.top) _ (fun b hb => by simp [stTop, hi.wf.topNew b hb, fullTop_new w b hb]) hargs'
  refine wpList_go hg ?_
  obtain ⟨dst, op, type, pos, after, guard⟩ := o
  subst hop
  have hrun : (execOp a.eval ⟨dst, .call ⟨.value fop, args, ats⟩, type, pos, after, guard⟩).run P w = .ok (.enter f (args.toList.map a.eval ++ cs).toArray) w := by
    have : (args.map a.eval ++ cs.toArray) = (args.toList.map a.eval ++ cs).toArray := by
      rw [map_toArray]; simp
    simp only [execOp, resolve, hfe, Deferred.ofValue, Sem.run_bind, Sem.run_pure, Result.andThen_ok, invoke]
    rw [show (#[] ++ args.map a.eval) = args.map a.eval by simp, this]
    exact run_callFunc call.1 _ w
  simp only [Oper.wp, hrun, Oper.upon]
  refine hcall.mono ?_
  rintro e w' ⟨v, r, top', rfl, hKr, hr, hp⟩
  obtain ⟨hi', _⟩ := hi.called hp.low
  have hr' : Rep w' { g with top := lowTop w g.top top' } r v := Rep.flat _ _ (hK r hKr) hr
  exact k r hKr w0 g0 _ w' _ (hi'.put hr' hd)
end

section
variable {P : Program} [Tab P] {N n0 : Nat} {Q : Post} {ops : Array Oper} {rest : List Oper} {σ : List (Nat × AV)} {H A : List (Nat × Nat × AV)} {O : List (Nat × Kind)} {n i : Nat}
  {d : Nat} {ty : TypeId} {pos : String} {af : Array Edge} {gd : Option (Nat × Bool)}

/-- A call of a function value that only reads what it holds. -/
theorem rf {fop : Operand} {args : Array Operand} {ats : Array TypeId} {f : FuncId} {caps : List AV} {r : AV} (hd : Nat.blt d N = true) (hf : ev σ fop = .fn f caps)
    (call : PCall P f ((args.toList.map (evs ⟨σ, H, O, n⟩) ++ caps).map (frz H 8)) (· = r)) (hr : flat r = true)
    (k : aops P N n0 ops rest Q ⟨(d, r) :: σ, H, O, n⟩) : aops P N n0 ops (⟨some d, .call ⟨.value fop, args, ats⟩, ty, pos, af, none⟩ :: rest) Q ⟨σ, H, O, n⟩ :=
  aops_callF rfl rfl hd hf call (fun _ e => by subst e; exact hr) (fun _ e => by subst e; exact k)

theorem df {K : St → Prop} {fop : Operand} {args : Array Operand} {ats : Array TypeId} {f : FuncId} {caps : List AV} {r : AV} (hd : Nat.blt d N = true) (hg : wantedS ops σ gd = some true)
    (hf : ev (restr ⟨some d, .call ⟨.value fop, args, ats⟩, ty, pos, af, gd⟩ σ) fop = .fn f caps)
    (call : ∀ m, PCall P f ((args.toList.map (evs ⟨restr ⟨some d, .call ⟨.value fop, args, ats⟩, ty, pos, af, gd⟩ σ, H, O, m⟩) ++ caps).map (frz H 8)) (· = r)) (hr : flat r = true)
    (k : DP P N n0 ops H O (i + 1) rest ((d, r) :: σ) n A K) : DP P N n0 ops H O i (⟨some d, .call ⟨.value fop, args, ats⟩, ty, pos, af, gd⟩ :: rest) σ n A K := by
  obtain ⟨σ', n', A', al, hp, hk⟩ := k
  exact ⟨σ', n', A', al, .go rfl hd hg (fun m => step_callF rfl hf (call m) hr) hp, hk⟩
end
end Go.Pv
