/- The texts of a proof, put together by a program of this session's; names are short for the size's sake. -/
import Derived.ProofKit
import Derived.IntWalk
import Derived.Test.YtbkomicjhfldmaaGreatDoorM1
namespace Go.Pv
open Go.RowKit (Below)
set_option linter.unusedSimpArgs false
set_option linter.unusedSectionVars false
set_option linter.unusedVariables false
def vC (P : Program) (f : FuncId) : Bool := (P.funcs[f]?).any fun fn => fn.body.isSome && !(fn.name == "runtime.NumGoroutine")
structure PF (w : World) (top : Nat → Nat) (w' : World) (top' : Nat → Nat) : Prop where
 below : Below w.heap.size w w'
 old : ∀ b, b < w.heap.size → top' b = top b
 new : ∀ b, w'.heap.size ≤ b → top' b = 0
def ai (P : Program) (f : FuncId) (args : List AV) (K : AV → Prop) : Prop :=
 vC P f = true ∧ ∀ w top vals, (∀ b, w.heap.size ≤ b → top b = 0) → g8 w (G.ofTop top) → aG w (G.ofTop top) args vals →
  Calls P f vals.toArray w fun e w' => ∃ v r top', e = .returned v ∧ K r ∧ bU w' (G.ofTop top') r v ∧ PF w top w' top'
theorem ai.mono {P : Program} {f : FuncId} {args : List AV} {K K' : AV → Prop} (h : ai P f args K) (hk : ∀ r, K r → K' r) : ai P f args K' :=
 ⟨h.1, fun w top vals ht hlay hr => (h.2 w top vals ht hlay hr).mono fun e w' ⟨v, r, t, h1, h2, h3⟩ => ⟨v, r, t, h1, hk r h2, h3⟩⟩
theorem ep {P : Program} {f : FuncId} (h : vC P f = true) (args : Array Value) (w : World) : (callFunc f args).run P w = .ok (.enter f args) w := by
 unfold vC at h
 cases hf : P.funcs[f]? with
 | none => simp [hf] at h
 | some fn =>
  simp only [hf, Option.any_some, Bool.and_eq_true, Bool.not_eq_true'] at h
  have h1 : fn.body ≠ none := by intro e; simp [e] at h
  have h2 : fn.name ≠ "runtime.NumGoroutine" := by simpa using h.2
  simp [callFunc, hf, h1, h2]
section
variable {P : Program} {N n0 : Nat} {Q : bY} {s : St} {w0 : World} {g0 : G} {a : Act} {w : World} {g : G} {ops : Array Oper} {o : Oper} {rest : List Oper}
theorem bU.up {x : AV} {v : Value} (h : bU w (G.ofTop g.top) x v) : bU w g x v :=
 bU.mono x v (g := G.ofTop g.top) ⟨⟨fun _ => Nat.le_refl _, fun _ _ _ => rfl⟩, fun _ _ e => by simp [G.ofTop] at e, fun _ _ e => by simp [G.ofTop] at e, fun _ _ e => by simp [G.ofTop] at e⟩ h
theorem px (g : G) (hw : WF g w n0) : g.cut 0 = G.ofTop g.top := by
 simp only [G.cut, G.ofTop, Nat.not_lt_zero, if_false]
 congr 1
 funext b
 cases g.owner b <;> rfl
theorem dh.called (h : dh N n0 w0 g0 s a w g) {w' : World} {top' : Nat → Nat} (hp : PF w g.top w' top') :
  dh N n0 w0 g0 s a w' { g with top := top' } ∧ gC w (G.ofTop g.top) w' (G.ofTop top') := by
 have htop : ∀ b, g.top b ≤ top' b := fun b => by
  by_cases hb : b < w.heap.size
  · rw [hp.old b hb]; exact Nat.le_refl _
  · rw [h.wf.topNew b (by omega)]; exact Nat.zero_le _
 have hcell : ∀ b o, o < g.top b → w'.cell? ⟨b, o, none⟩ = w.cell? ⟨b, o, none⟩ := fun b o ho => hp.below.cell (p := ⟨b, o, none⟩) (h.wf.topLt ho)
 have hm : gC w g w' { g with top := top' } := ⟨⟨htop, hcell⟩, fun _ _ e => e, fun _ _ e => e, fun _ _ _ => rfl⟩
 refine ⟨?_, ⟨⟨htop, hcell⟩, fun _ _ e => e, fun _ _ e => e, fun _ _ e => by simp [G.ofTop] at e⟩⟩
 exact {
  defers := h.defers
  size := h.size
  slots := fun t => (h.slots t).mono _ _ hm
  cells := fun id off x hx => by
   obtain ⟨b, c, e, hb, hw, v, hv, r⟩ := h.cells id off x hx
   exact ⟨b, c, e, hb, by rw [hp.below.block b (h.wf.blkOwner _ _ hb).2.1]; exact hw, v, hv, r.mono _ _ hm⟩
  owns := fun id K hx => Kind.keep (h.owns.at hx) ⟨hm, fun b hb => ⟨hp.below.block _ (h.wf.ownerLt hb), hb, hp.old _ (h.wf.ownerLt hb)⟩, fun b hb => hb⟩
  wf := {
   topNew := hp.new
   ownNew := fun b hb => h.wf.ownNew b (Nat.le_trans hp.below.size hb)
   blkOwner := fun id b hb => by
    obtain ⟨k1, k2, k3, k4⟩ := h.wf.blkOwner id b hb
    exact ⟨k1, Nat.lt_of_lt_of_le k2 hp.below.size, by rw [← k3]; exact hp.old _ k2, k4⟩
   ownLt := h.wf.ownLt
   ownSl := h.wf.ownSl
   sep := h.wf.sep
   idLt := h.wf.idLt }
  frame := {
   os := hp.below.os.trans h.frame.os
   tape := hp.below.tape.trans h.frame.tape
   output := hp.below.output.trans h.frame.output
   size := Nat.le_trans h.frame.size hp.below.size
   block := fun b hb ho => (hp.below.block b (Nat.lt_of_lt_of_le hb h.frame.size)).trans (h.frame.block b hb ho)
   foreign := fun b hb ho => by
    obtain ⟨k1, k2⟩ := h.frame.foreign b hb ho
    exact ⟨k1, (hp.old b (Nat.lt_of_lt_of_le hb h.frame.size)).trans k2⟩
   top := fun b => Nat.le_trans (h.frame.top b) (htop b)
   stable := fun b o ho => (hcell b o (Nat.lt_of_lt_of_le ho (h.frame.top b))).trans (h.frame.stable b o ho)
   blk := h.frame.blk
   own := h.frame.own
   wd := h.frame.wd }
  nle := h.nle
  laid := h.laid }
theorem u3 {fop : Operand} {args : Array Operand} {ats : Array TypeId} {f : FuncId} {caps : List AV} {K : AV → Prop} (hg : o.guard = none) (hop : o.op = .call ⟨.value fop, args, ats⟩)
  (hd : uw N o.dst = true) (hf : ev s.σ fop = .fn f caps) (hc : dT 0 (args.toList.map (gj s) ++ caps) = true) (call : ai P f (args.toList.map (gj s) ++ caps) K)
  (k : ∀ r, K r → aM P N n0 ops rest Q (s.put o.dst r)) : aM P N n0 ops (o :: rest) Q s := by
 intro w0 g0 a w g hi
 have hfr := bA hi.slots fop
 rw [hf] at hfr
 obtain ⟨cs, hfe, hcs⟩ := hfr
 have hargs : aG w g (args.toList.map (gj s) ++ caps) (args.toList.map a.eval ++ cs) := aG.append (lz hi args.toList) hcs
 have hargs' := aG.cut 0 _ _ hc hargs
 rw [px g hi.wf] at hargs'
 have hcall := call.2 w g.top _ hi.wf.topNew (hi.laidNow.top _) hargs'
 refine hZ hg ?_
 obtain ⟨dst, op, type, pos, after, guard⟩ := o
 subst hop
 have hrun : (execOp a.eval ⟨dst, .call ⟨.value fop, args, ats⟩, type, pos, after, guard⟩).run P w = .ok (.enter f (args.toList.map a.eval ++ cs).toArray) w := by
  have : (args.map a.eval ++ cs.toArray) = (args.toList.map a.eval ++ cs).toArray := by
   rw [map_toArray]; simp
  simp only [execOp, resolve, hfe, Deferred.ofValue, Sem.run_bind, Sem.run_pure, Result.andThen_ok, invoke]
  rw [show (#[] ++ args.map a.eval) = args.map a.eval by simp, this]
  exact ep call.1 _ w
 simp only [Oper.wp, hrun, Oper.upon]
 refine hcall.mono ?_
 rintro e w' ⟨v, r, top', rfl, hK, hr, hp⟩
 obtain ⟨hi', _⟩ := hi.called hp
 have hr' : bU w' { g with top := top' } r v := bU.up (g := { g with top := top' }) hr
 exact k r hK w0 g0 _ w' _ (hi'.put hr' hd)
def kV (i : Nat) : List AV → List (Nat × AV)
 | [] => []
 | x :: r => (i, x) :: kV (i + 1) r
theorem pa : ∀ (xs : List AV) (i t : Nat), lk (kV i xs) t = if i ≤ t then (xs[t - i]?).getD .any else .any
 | [], i, t => by simp [kV, lk]
 | x :: r, i, t => by
  simp only [kV, lk, pa r]
  by_cases h : Nat.beq i t = true
  ·
   have e : i = t := by simpa using h
   subst e
   simp
  ·
   have e : i ≠ t := fun e => h (by simp [e])
   rw [if_neg h]
   by_cases h2 : i ≤ t
   ·
    rw [if_pos h2, if_pos (by omega)]
    rw [show t - i = (t - (i + 1)) + 1 by omega]
    simp
   · rw [if_neg h2, if_neg (by omega)]
def Bk (P : Program) [dI P] (s : St) : ResultVar → Option AV
 | .tmp t => some (snap s.O (lk s.σ t))
 | .cell x t => match ti P t with
  | some i => match q8 s.H i (lk s.σ x) with
   | some y => some (snap s.O y)
   | none => none
  | none => none
def BK (P : Program) [dI P] (s : St) : List ResultVar → Option (List AV)
 | [] => some []
 | x :: r => match Bk P s x, BK P s r with
  | some y, some ys => some (y :: ys)
  | _, _ => none
def tQ (P : Program) [dI P] (s : St) (rs : List ResultVar) : Option AV :=
 match BK P s rs with
 | some [x] => some x
 | some xs => some (.tup xs)
 | none => none
def yk (tmps : Array Value) : ResultVar → Sem Value
 | .tmp t => pure (tmps.getD t undef)
 | .cell c t => do loadVar t (← asAddr (tmps.getD c undef))
theorem sX (fn : Func) (tmps : Array Value) : results fn tmps = (do let vs ← fn.results.mapM (yk tmps); pure (if h : vs.size = 1 then vs[0] else .tuple vs)) := by
 have : yk tmps = fun x => (match x with | .tmp t => pure (tmps.getD t undef) | .cell c t => do loadVar t (← asAddr (tmps.getD c undef)) : Sem Value) := by
  funext x; cases x <;> rfl
 unfold results
 rw [this]
 rfl
theorem xF [dI P] (hi : dh N n0 w0 g0 s a w g) {x : ResultVar} {y : AV} (h : Bk P s x = some y) :
  ∃ v, (yk a.tmps x).run P w = .ok v w ∧ bU w g y v := by
 cases x with
 | tmp t =>
  obtain rfl := Ke h
  exact ⟨_, rfl, kr hi.owns (hi.slots t)⟩
 | cell c t =>
  simp only [Bk] at h
  cases ht : ti P t with
  | none => simp [ht] at h
  | some i =>
   simp only [ht] at h
   cases hl : q8 s.H i (lk s.σ c) with
   | none => simp [hl] at h
   | some z =>
    simp only [hl] at h
    obtain rfl := Ke h
    obtain ⟨inf, d, zz, h1⟩ := aV ht
    obtain ⟨u, hu, hr⟩ := nA h1 hi.cells (hi.slots c) hl
    refine ⟨u, ?_, kr hi.owns hr⟩
    have hptr : ∃ ad, a.tmps.getD c undef = .pointer (some ad) := by
     have hs := hi.slots c
     cases hx : lk s.σ c <;> rw [hx] at hl hs <;> simp only [q8] at hl <;> first | (cases hl; done) | skip
     · obtain ⟨b, _, e⟩ := hs; exact ⟨_, e⟩
     · obtain ⟨b, o, e, _⟩ := hs; exact ⟨_, e⟩
    obtain ⟨ad, had⟩ := hptr
    rw [had] at hu
    simp only [yk, had]
    simpa [Instr.loadAt, Instr.sureAddr, asAddr] using hu
theorem se [dI P] (hi : dh N n0 w0 g0 s a w g) : ∀ {rs : List ResultVar} {ys : List AV}, BK P s rs = some ys →
  ∃ vs, (rs.mapM (yk a.tmps)).run P w = .ok vs w ∧ aG w g ys vs
 | [], ys, h => by
  obtain rfl := Ke h
  exact ⟨[], rfl, rfl⟩
 | x :: rs, ys, h => by
  simp only [BK] at h
  cases h1 : Bk P s x with
  | none => simp [h1] at h
  | some y =>
   cases h2 : BK P s rs with
   | none => simp [h1, h2] at h
   | some ys' =>
    simp only [h1, h2] at h
    obtain rfl := Ke h
    obtain ⟨v, hv, hr⟩ := xF hi h1
    obtain ⟨vs, hvs, hrs⟩ := se hi h2
    refine ⟨v :: vs, ?_, v, vs, rfl, hr, hrs⟩
    simp only [List.mapM_cons, Sem.run_bind, hv, Result.andThen_ok, hvs, Sem.run_pure]
theorem tw [dI P] (hi : dh N n0 w0 g0 s a w g) {fn : Func} {r : AV} (h : tQ P s fn.results.toList = some r) :
  ∃ v, (results fn a.tmps).run P w = .ok v w ∧ bU w g r v := by
 unfold tQ at h
 cases hl : BK P s fn.results.toList with
 | none => simp [hl] at h
 | some ys =>
  simp only [hl] at h
  obtain ⟨vs, hvs, hrs⟩ := se hi hl
  have hrun : (results fn a.tmps).run P w = .ok (if hh : vs.toArray.size = 1 then vs.toArray[0] else .tuple vs.toArray) w := by
   simp only [sX, Array.mapM_eq_mapM_toList, Sem.run_bind, Sem.run_map, hvs, Result.andThen_ok, Sem.run_pure]
  have hlen := hrs.length
  split at h
  ·
   rename_i x hx
   obtain rfl := Ke hx
   obtain rfl := Ke h
   obtain ⟨v, _, rfl, hv, rfl⟩ := hrs
   exact ⟨v, by rw [hrun]; simp, hv⟩
  ·
   rename_i xs hne hx
   obtain rfl := Ke hx
   obtain rfl := Ke h
   refine ⟨.tuple vs.toArray, ?_, vs, rfl, hrs⟩
   rw [hrun]
   have : vs.toArray.size ≠ 1 := by
    intro e
    have e1 : ys.length = 1 := by rw [← hlen]; simpa using e
    obtain ⟨x, rfl⟩ := List.length_eq_one_iff.1 e1
    exact hne x rfl
   rw [dif_neg this]
  · cases h
def vZ (P : Program) [dI P] (rs : List ResultVar) (K : AV → Prop) : bY
 | .normal, s | .ret, s => ∃ r, tQ P s rs = some r ∧ r.lim 0 = true ∧ K r
 | _, _ => False
theorem tE [dI P] {f : FuncId} {fn : Func} {c : Code} {args : List AV} {K : AV → Prop} (hf : P.funcs[f]? = some fn) (hb : fn.body = some c) (hn : (fn.name == "runtime.NumGoroutine") = false)
  (hl : Nat.ble args.length fn.ntmps = true) (h : cg P fn.ntmps 0 c (vZ P fn.results.toList K) ⟨kV 0 args, [], [], 0⟩) : ai P f args K := by
 refine ⟨by simp [vC, hf, hb, hn], fun w top vals htop hlay hr => ?_⟩
 have hlen := hr.length
 have hle : args.length ≤ fn.ntmps := by simpa using hl
 refine calls_of_wp hf hb (wp_mono (h w (G.ofTop top) _ w (G.ofTop top) ?_) ?_)
 · exact {
   defers := rfl
   size := by simp [hlen]; omega
   slots := fun t => by
    rw [pa]
    simp only [Nat.zero_le, if_true, Nat.sub_zero]
    cases hx : args[t]? with
    | none => trivial
    | some x =>
     obtain ⟨v, hv, rv⟩ := hr.get hx
     have hlt : t < vals.length := (List.getElem?_eq_some_iff.1 hv).1
     simp only [Option.getD_some]
     rw [Array.getD_eq_getD_getElem?, Array.getElem?_append_left (by simpa using hlt)]
     simpa [hv] using rv
   cells := fun id off x hx => by simp [d3] at hx
   owns := fun id K hx => by simp [dk] at hx
   wf := ⟨htop, fun _ _ => rfl, fun _ _ e => by simp [G.ofTop] at e, fun _ _ e => by simp [G.ofTop] at e, fun _ _ e => by simp [G.ofTop] at e, fun _ _ e => by simp [G.ofTop] at e, fun _ _ e => by simp [G.ofTop] at e⟩
   frame := gx.refl _ _ _
   nle := Nat.le_refl _
   laid := hlay }
 ·
  rintro e a' w' ⟨s', g', hq, hi⟩
  have key : (∃ r, tQ P s' fn.results.toList = some r ∧ r.lim 0 = true ∧ K r) → a'.defers = [] ∧ ∃ v, (results fn a'.tmps).run P w' = .ok v w' ∧
    ∃ v' r top', Ending.returned v = .returned v' ∧ K r ∧ bU w' (G.ofTop top') r v' ∧ PF w top w' top' := by
   rintro ⟨r, h1, h2, h3⟩
   obtain ⟨v, hv, rv⟩ := tw hi h1
   have nU := bU.cut 0 r v h2 rv
   rw [px g' hi.wf] at nU
   exact ⟨hi.defers, v, hv, v, r, g'.top, rfl, h3, nU, hi.frame.below (fun _ => rfl), fun b hb => (hi.frame.foreign b hb rfl).2, hi.wf.topNew⟩
  cases e <;> first | exact hq.elim | exact key hq
end
end Go.Pv
namespace Go.Pv
set_option linter.unusedSimpArgs false
set_option linter.unusedSectionVars false
set_option linter.unusedVariables false
mutual
def AV.nf {β : Type} : AV → (AV → Option β) → Option β
 | .any, k => k .any
 | .bool b, k => k (.bool b)
 | .int t n, k => k (.int t n)
 | .str s, k => k (.str s)
 | .nilp, k => k .nilp
 | .nilS, k => k .nilS
 | .nilM, k => k .nilM
 | .ptr i o, k => k (.ptr i o)
 | .rd c, k => k (.rd c)
 | .sl c, k => k (.sl c)
 | .own i, k => k (.own i)
 | .raw v, k => k (.raw v)
 | .eptr i r c, k => k (.eptr i r c)
 | .via i v, k => k (.via i v)
 | .nilI, k => k .nilI
 | .err t e, k => k (.err t e)
 | .iface t x, k => AV.nf x fun x' => k (.iface t x')
 | .nilF, k => k .nilF
 | .fn f cs, k => Ez cs fun cs' => k (.fn f cs')
 | .bfn f cs, k => Ez cs fun cs' => k (.bfn f cs')
 | .agg cs, k => Ez cs fun cs' => k (.agg cs')
 | .tup cs, k => Ez cs fun cs' => k (.tup cs')
def Ez {β : Type} : List AV → (List AV → Option β) → Option β
 | [], k => k []
 | x :: r, k => AV.nf x fun x' => Ez r fun r' => k (x' :: r')
end
mutual
theorem AV.nf_eq {β : Type} : ∀ (x : AV) (k : AV → Option β), x.nf k = k x
 | .any, _ | .bool _, _ | .int _ _, _ | .str _, _ | .nilp, _ | .nilS, _ | .nilM, _ | .ptr _ _, _ | .rd _, _ | .sl _, _ | .own _, _ | .raw _, _ | .eptr _ _ _, _ | .via _ _, _ | .err _ _, _ | .nilI, _ | .nilF, _ => rfl
 | .iface t x, k => by simp only [AV.nf]; exact AV.nf_eq x _
 | .fn f cs, k => by simp only [AV.nf]; exact mW cs _
 | .bfn f cs, k => by simp only [AV.nf]; exact mW cs _
 | .agg cs, k => by simp only [AV.nf]; exact mW cs _
 | .tup cs, k => by simp only [AV.nf]; exact mW cs _
theorem mW {β : Type} : ∀ (cs : List AV) (k : List AV → Option β), Ez cs k = k cs
 | [], _ => rfl
 | x :: r, k => by simp only [Ez]; rw [AV.nf_eq x]; exact mW r _
end
def HN : Option AV → Option AV
 | some v => v.nf some
 | none => none
theorem qy (x : Option AV) : HN x = x := by cases x <;> simp [HN, AV.nf_eq]
def DZ : Option (List AV) → Option (List AV)
 | some v => Ez v some
 | none => none
theorem vP (x : Option (List AV)) : DZ x = x := by cases x <;> simp [DZ, mW]
section
variable {P : Program} {N n0 : Nat} {Q : bY} {ops : Array Oper} {rest : List Oper} {σ : List (Nat × AV)} {H : List (Nat × Nat × AV)} {O : List (Nat × Kind)} {n : Nat}
 {d : Nat} {op : Op} {ty : TypeId} {pos : String} {af : Array Edge}
theorem rn (h : Q .normal ⟨σ, H, O, n⟩) : aM P N n0 ops [] Q ⟨σ, H, O, n⟩ := Ee h
theorem rv [dI P] {v : AV} (hd : Nat.blt d N = true) (hv : HN (oF P ⟨σ, H, O, n⟩ op) = some v) (k : aM P N n0 ops rest Q ⟨(d, v) :: σ, H, O, n⟩) :
  aM P N n0 ops (⟨some d, op, ty, pos, af, none⟩ :: rest) Q ⟨σ, H, O, n⟩ :=
 yr rfl hd (by rw [qy] at hv; exact hv) k
theorem nU [dI P] {v : AV} (hd : Nat.blt d N = true) (hv : oF P ⟨σ, H, O, n⟩ op = some v) (k : aM P N n0 ops rest Q ⟨(d, v) :: σ, H, O, n⟩) :
  aM P N n0 ops (⟨some d, op, ty, pos, af, none⟩ :: rest) Q ⟨σ, H, O, n⟩ :=
 yr rfl hd hv k
theorem gy {dst : Option Tmp} {j e : Nat} {want : Bool} (hj : fq ops j = some e) (he : Nat.blt e N = true) (hb : lk σ e = .bool want)
  (k : aM P N n0 ops (⟨dst, op, ty, pos, af, none⟩ :: rest) Q ⟨σ, H, O, n⟩) : aM P N n0 ops (⟨dst, op, ty, pos, af, some (j, want)⟩ :: rest) Q ⟨σ, H, O, n⟩ :=
 sG rfl hj he hb k
theorem gn {j e : Nat} {want w' : Bool} (hj : fq ops j = some e) (he : Nat.blt e N = true) (hb : lk σ e = .bool w') (hw : (!want) = w') (hd : Nat.blt d N = true)
  (k : aM P N n0 ops rest Q ⟨(d, .tup []) :: σ, H, O, n⟩) : aM P N n0 ops (⟨some d, op, ty, pos, af, some (j, want)⟩ :: rest) Q ⟨σ, H, O, n⟩ :=
 uH rfl hj he (by rw [hb, hw]) hd k
theorem gu {j e : Nat} {want : Bool} (hj : fq ops j = some e) (he : Nat.blt e N = true) (hb : lk σ e = .tup []) (hd : Nat.blt d N = true)
  (k : aM P N n0 ops rest Q ⟨(d, .tup []) :: σ, H, O, n⟩) : aM P N n0 ops (⟨some d, op, ty, pos, af, some (j, want)⟩ :: rest) Q ⟨σ, H, O, n⟩ :=
 qr rfl hj he hb hd k
def nb : Bool → Option Bool
 | true => some false
 | false => some true
theorem IR {b c : Bool} (h : nb b = some c) : (!b) = c := by cases b <;> simp [nb] at h <;> simp [h]
theorem gs {j e : Nat} {want w' b : Bool} (hj : fq ops j = some e) (he : Nat.blt e N = true) (hb : lk σ e = .bool b) (hd : Nat.blt d N = true) (hw : nb want = some w')
  (yes : b = want → aM P N n0 ops (⟨some d, op, ty, pos, af, none⟩ :: rest) Q ⟨(e, .bool want) :: σ, H, O, n⟩)
  (no : b = w' → aM P N n0 ops rest Q ⟨(d, .tup []) :: (e, .bool w') :: σ, H, O, n⟩) :
  aM P N n0 ops (⟨some d, op, ty, pos, af, some (j, want)⟩ :: rest) Q ⟨σ, H, O, n⟩ :=
 by
 have e := IR hw
 subst e
 exact yX rfl hj he hb hd yes no
theorem ra [dI P] {t : TypeId} {i : TI} {zs : List AV} (hd : Nat.blt d N = true) (ht : ti P t = some i) (hz : Ez i.zero some = some zs)
  (k : aM P N n0 ops rest Q ⟨(d, .ptr n 0) :: σ, gX n 0 zs H, O, n + 1⟩) : aM P N n0 ops (⟨some d, .alloc t, ty, pos, af, none⟩ :: rest) Q ⟨σ, H, O, n⟩ := by
 rw [mW] at hz
 obtain rfl := Ke hz
 exact zi Z Z hd ht k
theorem rb [dI P] {t : TypeId} {x : Operand} {cs : List AV} (hd : Nat.blt d N = true) (hc : DZ (ka (ev σ x)) = some cs)
  (k : aM P N n0 ops rest Q ⟨(d, .ptr n 0) :: σ, gX n 0 cs H, O, n + 1⟩) : aM P N n0 ops (⟨some d, .box t x, ty, pos, af, none⟩ :: rest) Q ⟨σ, H, O, n⟩ := by
 rw [vP] at hc
 exact Dk Z Z hd hc k
theorem rs [dI P] {t : TypeId} {x y : Operand} {i : TI} {id off : Nat} {cs old : List AV} (ht : ti P t = some i) (hx : ev σ x = .ptr id off) (hc : DZ (ka (ev σ y)) = some cs)
  (hsz : Nat.beq cs.length i.size = true) (h1 : cs.all AV.one = true) (hold : Cq H id off cs.length = some old) (hne : cs.isEmpty = false)
  (k : aM P N n0 ops rest Q ⟨σ, gX id off cs H, O, n⟩) : aM P N n0 ops (⟨none, .store t x y, ty, pos, af, none⟩ :: rest) Q ⟨σ, H, O, n⟩ := by
 rw [vP] at hc
 exact y5 Z Z Z ht hx hc hsz h1 hold hne k
theorem rc {fop : Operand} {args : Array Operand} {ats : Array TypeId} {f : FuncId} {caps : List AV} {K : AV → Prop} (hd : Nat.blt d N = true) (hf : ev σ fop = .fn f caps)
  (hc : dT 0 (args.toList.map (gj ⟨σ, H, O, n⟩) ++ caps) = true) (call : ai P f (args.toList.map (gj ⟨σ, H, O, n⟩) ++ caps) K)
  (k : ∀ r, K r → aM P N n0 ops rest Q ⟨(d, r) :: σ, H, O, n⟩) : aM P N n0 ops (⟨some d, .call ⟨.value fop, args, ats⟩, ty, pos, af, none⟩ :: rest) Q ⟨σ, H, O, n⟩ :=
 u3 Z Z hd hf hc call k
theorem bt {fop : Operand} {args : Array Operand} {ats : Array TypeId} {f : FuncId} {r : AV} (hd : Nat.blt d N = true) (hf : ev σ fop = .fn f [])
  (hc : dT 0 (args.toList.map (gj ⟨σ, H, O, n⟩)) = true) (call : ai P f (args.toList.map (gj ⟨σ, H, O, n⟩)) (· = r))
  (k : aM P N n0 ops rest Q ⟨(d, r) :: σ, H, O, n⟩) : aM P N n0 ops (⟨some d, .call ⟨.value fop, args, ats⟩, ty, pos, af, none⟩ :: rest) Q ⟨σ, H, O, n⟩ :=
 u3 (caps := []) Z Z hd hf (by rw [List.append_nil]; exact hc) (by rw [List.append_nil]; exact call) (fun _ e => by subst e; exact k)
theorem fB {c : Operand} {x y : Code} {b : Bool} (hc : ev σ c = .bool b) (ht : b = true → cg P N n0 x Q ⟨σ, H, O, n⟩) (hf : b = false → cg P N n0 y Q ⟨σ, H, O, n⟩) :
 cg P N n0 (.cond c x y) Q ⟨σ, H, O, n⟩ := yJ hc ht hf
theorem ct {c : Operand} {x y : Code} (hc : ev σ c = .bool true) (ht : cg P N n0 x Q ⟨σ, H, O, n⟩) : cg P N n0 (.cond c x y) Q ⟨σ, H, O, n⟩ :=
 yJ hc (fun _ => ht) (fun h => by cases h)
end
end Go.Pv
namespace Go.Pv
open Go.RowKit (Below)
set_option linter.unusedSimpArgs false
set_option linter.unusedSectionVars false
set_option linter.unusedVariables false
def s9 (o : Oper) : List Tmp := o.op.operands.toList.filterMap fun | .tmp t => some t | _ => none
def ci (o : Oper) (σ : List (Nat × AV)) : List (Nat × AV) := (s9 o).map fun t => (t, lk σ t)
theorem yf (σ : List (Nat × AV)) (ts : List Tmp) (t : Nat) : lk (ts.map fun t => (t, lk σ t)) t = .any ∨ (t ∈ ts ∧ lk (ts.map fun t => (t, lk σ t)) t = lk σ t) := by
 induction ts with
 | nil => exact .inl rfl
 | cons u ts ih =>
  simp only [List.map_cons, lk]
  by_cases h : Nat.beq u t = true
  ·
   have e : u = t := by simpa using h
   subst e
   exact .inr ⟨by simp, by simp⟩
  ·
   rw [if_neg h]
   rcases ih with h1 | ⟨h1, h2⟩
   · exact .inl h1
   · exact .inr ⟨by simp [h1], h2⟩
def bq (b want : Bool) : Bool :=
 match want with
 | true => b
 | false => !b
def bH (ops : Array Oper) (σ : List (Nat × AV)) : Option (Nat × Bool) → Option Bool
 | none => some true
 | some (j, want) => match fq ops j with
  | some e => match lk σ e with
   | .bool b => some (bq b want)
   | .tup [] => some false
   | _ => none
  | none => none
def kU (ops : Array Oper) (o : Oper) : List Tmp :=
 match o.guard with
 | some (j, _) => (fq ops j).toList
 | none => []
def dC (ops : Array Oper) (o : Oper) : List Tmp := kU ops o ++ s9 o
def yQ (P : Program) (N n0 : Nat) (s : St) (o : Oper) (v : AV) : Prop :=
 ∀ w0 g0 a w g, dh N n0 w0 g0 s a w g → ∀ Q, o.wp P a w (fun a' w' => ∃ u top', a' = a.put o.dst u ∧ bU w' { g with top := top' } v u ∧ PF w g.top w' top') Q
section
variable {P : Program} {N n0 : Nat} {s : St} {w0 : World} {g0 : G} {a : Act} {w : World} {g : G} {ops : Array Oper}
theorem PF.refl {top : Nat → Nat} (h : ∀ b, w.heap.size ≤ b → top b = 0) : PF w top w top := ⟨Below.refl _ _, fun _ _ => rfl, h⟩
theorem mi {o : Oper} {v : AV} (h : ∀ w0 g0 a w g, dh N n0 w0 g0 s a w g → ∃ u, (execOp a.eval o).run P w = .ok (.value u) w ∧ bU w g v u) : yQ P N n0 s o v := by
 intro w0 g0 a w g hi Q
 obtain ⟨u, hu, hr⟩ := h w0 g0 a w g hi
 simp only [Oper.wp, hu, Oper.upon]
 exact ⟨u, g.top, rfl, hr, PF.refl hi.wf.topNew⟩
theorem tW [dI P] {o : Oper} {v : AV} (h : oF P s o.op = some v) : yQ P N n0 s o v := mi fun w0 g0 a w g hi => iV hi h
theorem uZ {o : Oper} {fop : Operand} {args : Array Operand} {ats : Array TypeId} {f : FuncId} {caps : List AV} {v : AV} (hop : o.op = .call ⟨.value fop, args, ats⟩)
  (hf : ev s.σ fop = .fn f caps) (hc : dT 0 (args.toList.map (gj s) ++ caps) = true) (call : ai P f (args.toList.map (gj s) ++ caps) (· = v)) : yQ P N n0 s o v := by
 intro w0 g0 a w g hi Q
 have hfr := bA hi.slots fop
 rw [hf] at hfr
 obtain ⟨cs, hfe, hcs⟩ := hfr
 have hargs : aG w g (args.toList.map (gj s) ++ caps) (args.toList.map a.eval ++ cs) := aG.append (lz hi args.toList) hcs
 have hargs' := aG.cut 0 _ _ hc hargs
 rw [px g hi.wf] at hargs'
 have hcall := call.2 w g.top _ hi.wf.topNew (hi.laidNow.top _) hargs'
 obtain ⟨dst, op, type, pos, after, guard⟩ := o
 subst hop
 have hrun : (execOp a.eval ⟨dst, .call ⟨.value fop, args, ats⟩, type, pos, after, guard⟩).run P w = .ok (.enter f (args.toList.map a.eval ++ cs).toArray) w := by
  have : (args.map a.eval ++ cs.toArray) = (args.toList.map a.eval ++ cs).toArray := by
   rw [map_toArray]; simp
  simp only [execOp, resolve, hfe, Deferred.ofValue, Sem.run_bind, Sem.run_pure, Result.andThen_ok, invoke]
  rw [show (#[] ++ args.map a.eval) = args.map a.eval by simp, this]
  exact ep call.1 _ w
 simp only [Oper.wp, hrun, Oper.upon]
 refine hcall.mono ?_
 rintro e w' ⟨u, r, top', rfl, rfl, hr, hp⟩
 exact ⟨u, top', rfl, bU.up (g := { g with top := top' }) hr, hp⟩
inductive xd (P : Program) [dI P] (N n0 : Nat) (ops : Array Oper) (H : List (Nat × Nat × AV)) (O : List (Nat × Kind)) :
  Nat → List Oper → List (Nat × AV) → Nat → List (Nat × Nat × AV) → List (Nat × AV) → Nat → List (Nat × Nat × AV) → List (Nat × Nat × List AV) → Prop
 | nil {i σ n A} : xd P N n0 ops H O i [] σ n A σ n A []
 | go {i o rest σ n A σ' n' A' al d v} (hd : o.dst = some d) (hN : Nat.blt d N = true) (hg : bH ops σ o.guard = some true) (hs : ∀ m, yQ P N n0 ⟨ci o σ, H, O, m⟩ { o with guard := none } v)
   (k : xd P N n0 ops H O (i + 1) rest ((d, v) :: σ) n A σ' n' A' al) : xd P N n0 ops H O i (o :: rest) σ n A σ' n' A' al
 | no {i o rest σ n A σ' n' A' al d} (hd : o.dst = some d) (hN : Nat.blt d N = true) (hg : bH ops σ o.guard = some false)
   (k : xd P N n0 ops H O (i + 1) rest ((d, .tup []) :: σ) n A σ' n' A' al) : xd P N n0 ops H O i (o :: rest) σ n A σ' n' A' al
 | al {i o rest σ n A σ' n' A' al d t j} (hd : o.dst = some d) (hN : Nat.blt d N = true) (hg : bH ops σ o.guard = some true) (hop : o.op = .alloc t) (ht : ti P t = some j)
   (k : xd P N n0 ops H O (i + 1) rest ((d, .ptr n 0) :: σ) (n + 1) (gX n 0 j.zero A) σ' n' A' al) : xd P N n0 ops H O i (o :: rest) σ n A σ' n' A' ((i, n, j.zero) :: al)
 | eqv {i l σ n A σ' n' A' al σ₁} (h : ∀ t, lk σ₁ t = lk σ t) (k : xd P N n0 ops H O i l σ₁ n A σ' n' A' al) : xd P N n0 ops H O i l σ n A σ' n' A' al
variable [dI P] {H : List (Nat × Nat × AV)} {O : List (Nat × Kind)}
def Eg (ops : Array Oper) : List Oper → Bool
 | [] => true
 | o :: rest => (match o.dst with | some d => !(dC ops o).contains d | none => false) &&
  rest.all (fun r => match r.dst with | some d => o.dst != some d && !(dC ops o).contains d | none => false) && Eg ops rest
theorem lx {o : Oper} {rest : List Oper} (h : Eg ops (o :: rest) = true) {d : Nat} (hd : o.dst = some d) :
  Eg ops rest = true ∧ d ∉ dC ops o ∧ (∀ t, t = d ∨ t ∈ dC ops o → ∀ r ∈ rest, r.dst ≠ some t) := by
 simp only [Eg, Bool.and_eq_true, List.all_eq_true, hd] at h
 refine ⟨h.2, by have := h.1.1; rw [List.contains_eq_mem] at this; simpa using this, fun t ht r hr e => ?_⟩
 have := h.1.2 r hr
 rw [e] at this
 simp only [Bool.and_eq_true, bne_iff_ne, ne_eq, Bool.not_eq_true'] at this
 rcases ht with rfl | ht
 · exact this.1 rfl
 · have h2 := this.2; rw [List.contains_eq_mem] at h2; simp at h2; exact h2 ht
theorem xd.lk_same {i : Nat} {l : List Oper} {σ : List (Nat × AV)} {n : Nat} {A : List (Nat × Nat × AV)} {σ' : List (Nat × AV)} {n' : Nat} {A' : List (Nat × Nat × AV)} {al : List (Nat × Nat × List AV)}
  (h : xd P N n0 ops H O i l σ n A σ' n' A' al) : ∀ t, (∀ o ∈ l, o.dst ≠ some t) → lk σ' t = lk σ t := by
 induction h with
 | nil => intro t _; rfl
 | go hd hN hg hs k ih | no hd hN hg k ih | al hd hN hg hop ht k ih =>
  intro t ht
  rw [ih t (fun o ho => ht o (by simp [ho]))]
  have := ht _ (List.mem_cons_self ..)
  simp only [lk]
  rw [if_neg]
  rw [hd] at this
  simp only [Nat.beq_eq]
  exact fun e => this (by rw [e])
 | eqv h k ih => intro t ht; rw [ih t ht, h t]
def HY (P : Program) [dI P] (N n0 : Nat) (ops : Array Oper) (H : List (Nat × Nat × AV)) (O : List (Nat × Kind)) (σ' : List (Nat × AV)) (al : List (Nat × Nat × List AV)) (i : Nat) (o : Oper) : Prop :=
 ∃ d, o.dst = some d ∧ Nat.blt d N = true ∧
  ((bH ops σ' o.guard = some true ∧ (((∀ p ∈ al, p.1 ≠ i) ∧ ∀ m, yQ P N n0 ⟨ci o σ', H, O, m⟩ { o with guard := none } (lk σ' d)) ∨
    (∃ t j id, o.op = .alloc t ∧ ti P t = some j ∧ (i, id, j.zero) ∈ al ∧ lk σ' d = .ptr id 0))) ∨
   (bH ops σ' o.guard = some false ∧ (∀ p ∈ al, p.1 ≠ i) ∧ lk σ' d = .tup []))
theorem DW {o : Oper} {σ σ' : List (Nat × AV)} (h : ∀ t ∈ s9 o, lk σ' t = lk σ t) : ci o σ' = ci o σ := by
 unfold ci
 exact List.map_congr_left fun t ht => by rw [h t ht]
theorem oH {o : Oper} {σ σ' : List (Nat × AV)} (h : ∀ t ∈ kU ops o, lk σ' t = lk σ t) : bH ops σ' o.guard = bH ops σ o.guard := by
 unfold kU at h
 unfold bH
 cases hg : o.guard with
 | none => rfl
 | some p =>
  obtain ⟨j, want⟩ := p
  simp only [hg] at h ⊢
  cases he : fq ops j with
  | none => rfl
  | some e => simp only [he, Option.toList] at h ⊢; rw [h e (by simp)]
theorem xd.als {i : Nat} {l : List Oper} {σ : List (Nat × AV)} {n : Nat} {A : List (Nat × Nat × AV)} {σ' : List (Nat × AV)} {n' : Nat} {A' : List (Nat × Nat × AV)} {al : List (Nat × Nat × List AV)}
  (h : xd P N n0 ops H O i l σ n A σ' n' A' al) : n ≤ n' ∧ (∀ p ∈ al, i ≤ p.1 ∧ p.1 < i + l.length ∧ n ≤ p.2.1 ∧ p.2.1 < n') ∧ (∀ p ∈ al, ∀ q ∈ al, (p.1 = q.1 ∨ p.2.1 = q.2.1) → p = q) ∧
   (∀ id off x, d3 A' id off = some x → d3 A id off = some x ∨ ∃ p ∈ al, p.2.1 = id ∧ p.2.2[off]? = some x) := by
 induction h with
 | nil => exact ⟨Nat.le_refl _, by simp, by simp, fun _ _ _ h => .inl h⟩
 | eqv h k ih => exact ih
 | go hd hN hg hs k ih =>
  obtain ⟨h1, h2, h3, h4⟩ := ih
  exact ⟨h1, fun p hp => by have := h2 p hp; simp only [List.length_cons]; omega, h3, h4⟩
 | no hd hN hg k ih =>
  obtain ⟨h1, h2, h3, h4⟩ := ih
  exact ⟨h1, fun p hp => by have := h2 p hp; simp only [List.length_cons]; omega, h3, h4⟩
 | @al i o rest σ n A σ' n' A' al d t j hd hN hg hop ht k ih =>
  obtain ⟨h1, h2, h3, h4⟩ := ih
  refine ⟨by omega, ?_, ?_, ?_⟩
  ·
   intro p hp
   rcases List.mem_cons.1 hp with rfl | hp
   · simp only [List.length_cons]; omega
   · have := h2 p hp; simp only [List.length_cons]; omega
  ·
   intro p hp q hq e
   rcases List.mem_cons.1 hp with rfl | hp <;> rcases List.mem_cons.1 hq with rfl | hq
   · rfl
   · have := h2 q hq; simp only at e; omega
   · have := h2 p hp; simp only at e; omega
   · exact h3 p hp q hq e
  ·
   intro id off x hx
   rcases h4 id off x hx with h | ⟨p, hp, e1, e2⟩
   ·
    rw [jX] at h
    split at h
    ·
     rename_i hc
     exact .inr ⟨(i, n, j.zero), by simp, hc.1.symm, by simpa using h⟩
    · exact .inl h
   · exact .inr ⟨p, by simp [hp], e1, e2⟩
theorem xd.facts {i : Nat} {l : List Oper} {σ : List (Nat × AV)} {n : Nat} {A : List (Nat × Nat × AV)} {σ' : List (Nat × AV)} {n' : Nat} {A' : List (Nat × Nat × AV)} {al : List (Nat × Nat × List AV)}
  (h : xd P N n0 ops H O i l σ n A σ' n' A' al) (hok : Eg ops l = true) : ∀ k o, l[k]? = some o → HY P N n0 ops H O σ' al (i + k) o := by
 induction h with
 | nil => intro k o h; simp at h
 | eqv h k ih => exact ih hok
 | @go i o rest σ n A σ' n' A' al d v hd hN hg hs k ih =>
  intro j q hq
  obtain ⟨hok1, hself, hrest⟩ := lx hok hd
  cases j with
  | zero =>
   simp at hq; subst hq
   have hlk : ∀ t, t ∈ dC ops o → lk σ' t = lk σ t := fun t ht => by
    rw [k.lk_same t (hrest t (.inr ht))]
    simp only [lk]
    rw [if_neg]
    simp only [Nat.beq_eq]
    exact fun e => hself (by rw [e]; exact ht)
   have hdv : lk σ' d = v := by rw [k.lk_same d (hrest d (.inl rfl))]; simp [lk]
   have hgd : bH ops σ' o.guard = bH ops σ o.guard := oH fun t ht => hlk t (by simp [dC, ht])
   exact ⟨d, hd, hN, .inl ⟨hgd.trans hg, .inl ⟨fun p hp => by have := (k.als.2.1 p hp).1; omega, fun m => by rw [hdv, DW fun t ht => hlk t (by simp [dC, ht])]; exact hs m⟩⟩⟩
  | succ j =>
   have := ih hok1 j q (by simpa using hq)
   rw [Nat.add_assoc, Nat.add_comm 1 j] at this
   exact this
 | @no i o rest σ n A σ' n' A' al d hd hN hg k ih =>
  intro j q hq
  obtain ⟨hok1, hself, hrest⟩ := lx hok hd
  cases j with
  | zero =>
   simp at hq; subst hq
   have hlk : ∀ t, t ∈ dC ops o → lk σ' t = lk σ t := fun t ht => by
    rw [k.lk_same t (hrest t (.inr ht))]
    simp only [lk]
    rw [if_neg]
    simp only [Nat.beq_eq]
    exact fun e => hself (by rw [e]; exact ht)
   have hdv : lk σ' d = .tup [] := by rw [k.lk_same d (hrest d (.inl rfl))]; simp [lk]
   have hgd : bH ops σ' o.guard = bH ops σ o.guard := oH fun t ht => hlk t (by simp [dC, ht])
   exact ⟨d, hd, hN, .inr ⟨hgd.trans hg, fun p hp => by have := (k.als.2.1 p hp).1; omega, hdv⟩⟩
  | succ j =>
   have := ih hok1 j q (by simpa using hq)
   rw [Nat.add_assoc, Nat.add_comm 1 j] at this
   exact this
 | @al i o rest σ n A σ' n' A' al d t j hd hN hg hop ht k ih =>
  intro j' q hq
  obtain ⟨hok1, hself, hrest⟩ := lx hok hd
  cases j' with
  | zero =>
   simp at hq; subst hq
   have hlk : ∀ t, t ∈ dC ops o → lk σ' t = lk σ t := fun t ht => by
    rw [k.lk_same t (hrest t (.inr ht))]
    simp only [lk]
    rw [if_neg]
    simp only [Nat.beq_eq]
    exact fun e => hself (by rw [e]; exact ht)
   have hdv : lk σ' d = .ptr n 0 := by rw [k.lk_same d (hrest d (.inl rfl))]; simp [lk]
   have hgd : bH ops σ' o.guard = bH ops σ o.guard := oH fun t ht => hlk t (by simp [dC, ht])
   exact ⟨d, hd, hN, .inl ⟨hgd.trans hg, .inr ⟨t, j, n, hop, ht, by simp, hdv⟩⟩⟩
  | succ j' =>
   have := ih hok1 j' q (by simpa using hq)
   rw [Nat.add_assoc, Nat.add_comm 1 j'] at this
   obtain ⟨d', h1, h2, h3⟩ := this
   have hne : ∀ p ∈ al, p.1 ≠ i + (j' + 1) → True := fun _ _ _ => trivial
   have hcons : (∀ p ∈ al, p.1 ≠ i + (j' + 1)) → ∀ p ∈ (i, n, j.zero) :: al, p.1 ≠ i + (j' + 1) := fun hh p hp => by
    rcases List.mem_cons.1 hp with rfl | hp
    · show i ≠ i + (j' + 1); omega
    · exact hh p hp
   exact ⟨d', h1, h2, h3.imp (fun ⟨x, y⟩ => ⟨x, y.imp (fun ⟨u, v⟩ => ⟨hcons u, v⟩) fun ⟨t, j, id, p, q, r, s⟩ => ⟨t, j, id, p, q, by simp [r], s⟩⟩) (fun ⟨x, y, z⟩ => ⟨x, hcons y, z⟩)⟩
def pD (o : Oper) (i : Nat) : Bool := o.after.any fun e => Nat.beq e.on i && Region.binds .any e
def mq (ops : Array Oper) (m : Nat) : Bool :=
 (List.range m).all fun j => match ops[j]? with
  | some o => (List.range m).all fun i => match (ops[i]?).bind (·.dst) with
   | some t => if (dC ops o).contains t then pD o i else true
   | none => true
  | none => true
def gS (ops : Array Oper) (m : Nat) : Bool :=
 (List.range ops.size).all fun j => Nat.blt j m || (match ops[j]? with
  | some o => (List.range j).all fun i => pD o i
  | none => true)
def gQ (ops : Array Oper) : Bool :=
 (List.range ops.size).all fun j => match ops[j]? with
  | some o => o.after.all fun e => !Region.binds .any e || Nat.blt e.on j
  | none => true
def uV (n : Nat) : List (Nat × Nat × AV) → Bool
 | [] => true
 | (i, _, _) :: r => Nat.blt i n && uV n r
theorem ym {n : Nat} : ∀ {H : List (Nat × Nat × AV)}, uV n H = true → ∀ id off x, d3 H id off = some x → id < n
 | [], _, _, _, _, h => by simp [d3] at h
 | (i, o, v) :: r, hh, id, off, x, h => by
  simp only [uV, Bool.and_eq_true] at hh
  simp only [d3] at h
  split at h
  ·
   rename_i hc
   simp only [Bool.and_eq_true, Nat.beq_eq] at hc
   rw [← hc.1]
   simpa using hh.1
  · exact ym hh.2 id off x h
theorem lw {md : Region.Mode} {L : Array Bool} {i : Nat} (h : i ∈ Region.ready md ops L) :
  ∃ o, ops[i]? = some o ∧ i < ops.size ∧ L.getD i true = false ∧ ∀ e ∈ o.after.toList, Region.binds md e = true → L.getD e.on false = true := by
 unfold Region.ready at h
 simp only [List.mem_filter, List.mem_range, Bool.and_eq_true, Bool.not_eq_true'] at h
 obtain ⟨h1, h2, h3⟩ := h
 rw [Array.getElem?_eq_getElem h1] at h3 ⊢
 simp only [Option.map_some, Option.getD_some] at h3
 refine ⟨_, rfl, h1, h2, fun e he hb => ?_⟩
 rw [← Array.all_toList, List.all_eq_true] at h3
 have := h3 e he
 simpa [hb] using this
theorem sx {md : Region.Mode} {L : Array Bool} {i : Nat} {o : Oper} (ho : ops[i]? = some o) (hL : L.getD i true = false) (he : ∀ e ∈ o.after.toList, Region.binds md e = true → L.getD e.on false = true) :
  i ∈ Region.ready md ops L := by
 have hi : i < ops.size := (Array.getElem?_eq_some_iff.1 ho).1
 unfold Region.ready
 simp only [List.mem_filter, List.mem_range, Bool.and_eq_true, Bool.not_eq_true']
 refine ⟨hi, hL, ?_⟩
 rw [ho]
 simp only [Option.map_some, Option.getD_some]
 rw [← Array.all_toList, List.all_eq_true]
 intro e h
 cases hb : Region.binds md e with
 | false => simp
 | true => simp [he e h hb]
theorem fY {o : Oper} {i : Nat} {L : Array Bool} (h : pD o i = true) (he : ∀ e ∈ o.after.toList, Region.binds .any e = true → L.getD e.on false = true) : L.getD i false = true := by
 unfold pD at h
 rw [← Array.any_toList, List.any_eq_true] at h
 obtain ⟨e, h1, h2⟩ := h
 simp only [Bool.and_eq_true, Nat.beq_eq] at h2
 have := he e h1 h2.2
 rwa [h2.1] at this
theorem dQ {L : Array Bool} {i k : Nat} (hi : i < L.size) (d : Bool) : (L.setIfInBounds i true).getD k d = if k = i then true else L.getD k d := by
 rw [Array.getD_eq_getD_getElem?, Array.getD_eq_getD_getElem?, Array.getElem?_setIfInBounds]
 by_cases h : i = k
 · subst h; simp [hi]
 · simp [h, Ne.symm h]
theorem el {L : Array Bool} {k : Nat} (hk : k < L.size) (d e : Bool) : L.getD k d = L.getD k e := by
 rw [Array.getD_eq_getD_getElem?, Array.getD_eq_getD_getElem?, Array.getElem?_eq_getElem hk]; rfl
theorem yj {Q : Exit → Act → World → Prop} {m : Nat} (hp : gS ops m = true) (hb : gQ ops = true) : ∀ (fuel k : Nat) (L : Array Bool) (a : Act) (w : World), m ≤ k → k ≤ ops.size → L.size = ops.size →
  (∀ i, i < ops.size → L.getD i true = decide (i < k)) → ops.size - k ≤ fuel → wpList P ops Q (ops.toList.drop k) a w → wpAny P .any ops Q fuel L a w := by
 intro fuel
 induction fuel with
 | zero =>
  intro k L a w hm hk hs hL hf h
  have hkk : k = ops.size := by omega
  subst hkk
  have hr : Region.ready .any ops L = [] := by
   refine List.eq_nil_iff_forall_not_mem.2 fun i hi => ?_
   obtain ⟨o, _, h2, h3, _⟩ := lw hi
   rw [hL i h2] at h3
   simp [h2] at h3
  refine ⟨hr, ?_⟩
  rw [List.drop_eq_nil_of_le (by simp)] at h
  exact h
 | succ fuel ih =>
  intro k L a w hm hk hs hL hf h
  by_cases hkk : k = ops.size
  ·
   subst hkk
   have hr : Region.ready .any ops L = [] := by
    refine List.eq_nil_iff_forall_not_mem.2 fun i hi => ?_
    obtain ⟨o, _, h2, h3, _⟩ := lw hi
    rw [hL i h2] at h3
    simp [h2] at h3
   rw [List.drop_eq_nil_of_le (by simp)] at h
   exact ⟨fun _ => h, fun i hi => by rw [hr] at hi; cases hi⟩
  ·
   have hlt : k < ops.size := by omega
   have hok : ops[k]? = some ops[k] := Array.getElem?_eq_getElem hlt
   have hready : k ∈ Region.ready .any ops L := by
    refine sx hok (by rw [hL k hlt]; simp) fun e he hbd => ?_
    have h1 : gQ ops = true := hb
    unfold gQ at h1
    rw [List.all_eq_true] at h1
    have h2 := h1 k (List.mem_range.2 hlt)
    rw [hok] at h2
    simp only at h2
    rw [← Array.all_toList, List.all_eq_true] at h2
    have h3 := h2 e he
    simp only [hbd, Bool.not_true, Bool.false_or] at h3
    have h4 : e.on < k := by simpa using h3
    rw [el (by omega) false true, hL e.on (by omega)]
    simp [h4]
   refine ⟨fun h0 => (by rw [h0] at hready; cases hready), fun i hi => ?_⟩
   obtain ⟨o, h1, h2, h3, h4⟩ := lw hi
   have hik : i = k := by
    rw [hL i h2] at h3
    have h5 : ¬ i < k := by simpa using h3
    refine Classical.byContradiction fun hne => ?_
    have h6 : k < i := by omega
    have h7 : gS ops m = true := hp
    unfold gS at h7
    rw [List.all_eq_true] at h7
    have h8 := h7 i (List.mem_range.2 h2)
    rw [h1] at h8
    simp only [Bool.or_eq_true] at h8
    rcases h8 with h8 | h8
    ·
     have : i < m := by simpa using h8
     omega
    ·
     rw [List.all_eq_true] at h8
     have h9 := fY (h8 k (List.mem_range.2 h6)) h4
     rw [el (by omega) false true, hL k hlt] at h9
     simp at h9
   subst hik
   rw [List.drop_eq_getElem_cons (by simpa using hlt)] at h
   have he : ops.toList[i] = ops[i] := by simp
   rw [he] at h
   have hnext : ∀ a w, wpList P ops Q (ops.toList.drop (i + 1)) a w → wpAny P .any ops Q fuel (L.setIfInBounds i true) a w := fun a w hh =>
    ih (i + 1) _ a w (by omega) (by omega) (by simp [hs]) (fun j hj => by
     rw [dQ (by omega), hL j hj]
     by_cases hji : j = i
     · subst hji; simp
     ·
      rw [if_neg hji]
      have : (j < i) = (j < i + 1) := by simp; omega
      simp [this]) (by omega) hh
   simp only [wpOp, hok]
   unfold wpList at h
   split at h
   ·
    rename_i hw
    rw [if_pos hw]
    exact h.imp (fun hh => Oper.wp_mono hnext hh) id
   ·
    rename_i hw
    rw [if_neg hw]
    exact hnext _ _ h
structure J (P : Program) [dI P] (N n0 : Nat) (ops : Array Oper) (H : List (Nat × Nat × AV)) (O : List (Nat × Kind)) (m nF : Nat) (σ' : List (Nat × AV)) (al : List (Nat × Nat × List AV))
  (w0 : World) (g0 : G) (L : Array Bool) (a : Act) (w : World) (g : G) (HL : List (Nat × Nat × AV)) (σL : List (Nat × AV)) : Prop where
 inv : dh N n0 w0 g0 ⟨σL, HL, O, nF⟩ a w g
 slots : ∀ t, (∀ i o, i < m → ops[i]? = some o → o.dst = some t → L.getD i false = true) → lk σL t = lk σ' t
 old : ∀ id off x, d3 H id off = some x → d3 HL id off = some x
 made : ∀ p ∈ al, L.getD p.1 false = true → ∀ off x, p.2.2[off]? = some x → d3 HL p.2.1 off = some x
 free : ∀ p ∈ al, L.getD p.1 false = false → g.blk p.2.1 = none ∧ g.own p.2.1 = none
theorem qg {o : Oper} {σL σ' : List (Nat × AV)} {b : Bool} {n : Nat} {HL : List (Nat × Nat × AV)} (hi : dh N n0 w0 g0 ⟨σL, HL, O, n⟩ a w g) (hl : ∀ t ∈ kU ops o, lk σL t = lk σ' t ∧ t < N)
  (hw : bH ops σ' o.guard = some b) : Region.wanted o (yielded ops a.tmps) = b := by
 unfold bH at hw
 unfold kU at hl
 cases hg : o.guard with
 | none =>
  simp only [hg] at hw
  obtain rfl := Ke hw
  simp [Region.wanted, hg]
 | some p =>
  obtain ⟨j, want⟩ := p
  simp only [hg] at hw hl
  cases he : fq ops j with
  | none => simp [he] at hw
  | some e =>
   simp only [he, Option.toList] at hw hl
   obtain ⟨h1, h2⟩ := hl e (by simp)
   have hr := hi.slots e
   rw [h1] at hr
   have hN : Nat.blt e N = true := by simpa using h2
   split at hw
   ·
    rename_i c hc
    rw [hc] at hr
    obtain rfl := Ke hw
    simp only [Region.wanted, hg]
    rw [kz he hN hi.size hr]
    cases c <;> cases want <;> rfl
   ·
    rename_i hc
    rw [hc] at hr
    obtain rfl := Ke hw
    obtain ⟨vs, e1, e2⟩ := hr
    obtain rfl : vs = [] := e2
    simp only [Region.wanted, hg]
    rw [oo he hN hi.size e1]
    rfl
   · cases hw
theorem J.step {m nF n : Nat} {σ' : List (Nat × AV)} {al : List (Nat × Nat × List AV)} {L : Array Bool} {HL : List (Nat × Nat × AV)} {σL : List (Nat × AV)} (h : J P N n0 ops H O m nF σ' al w0 g0 L a w g HL σL)
  (hm : m ≤ ops.size) (hs : L.size = ops.size) (hH : ∀ id off x, d3 H id off = some x → id < n) (hn0 : n0 ≤ n) (hal : ∀ p ∈ al, n ≤ p.2.1 ∧ p.2.1 < nF) (hun : ∀ p ∈ al, ∀ q ∈ al, (p.1 = q.1 ∨ p.2.1 = q.2.1) → p = q)
  (hdst : ∀ i o, i < m → ops[i]? = some o → ∀ t, o.dst = some t → ∀ i' o', i' < m → ops[i']? = some o' → o'.dst = some t → i' = i)
  (hbnd : ∀ i o, i < m → ops[i]? = some o → ∀ t ∈ kU ops o, t < N)
  {j : Nat} {o : Oper} (hj : j < m) (ho : ops[j]? = some o) (hjL : L.getD j true = false) (hdep : ∀ t ∈ dC ops o, ∀ i o', i < m → ops[i]? = some o' → o'.dst = some t → L.getD i false = true)
  (hf : HY P N n0 ops H O σ' al j o) {Q : Exit → Act → World → Prop} {K : Act → World → Prop}
  (hK : ∀ a' w' g' HL' σL', J P N n0 ops H O m nF σ' al w0 g0 (L.setIfInBounds j true) a' w' g' HL' σL' → K a' w') : wpOp P ops Q j K a w := by
 obtain ⟨d, hd, hdN, hcase⟩ := hf
 have hjs : j < L.size := by omega
 have huse : ∀ t ∈ dC ops o, lk σL t = lk σ' t := fun t ht => h.slots t (hdep t ht)
 have hslots' : ∀ v, v = lk σ' d → ∀ t, (∀ i o, i < m → ops[i]? = some o → o.dst = some t → (L.setIfInBounds j true).getD i false = true) → lk ((d, v) :: σL) t = lk σ' t := by
  intro v hv t ht
  simp only [lk]
  by_cases hb : Nat.beq d t = true
  ·
   have e : d = t := by simpa using hb
   subst e
   rw [if_pos hb, hv]
  ·
   rw [if_neg hb]
   refine h.slots t fun i o' hi ho' hd' => ?_
   have := ht i o' hi ho' hd'
   rw [dQ hjs] at this
   split at this
   ·
    rename_i hij
    subst hij
    rw [ho] at ho'
    obtain rfl := Ke ho'
    rw [hd] at hd'
    exact absurd (by simp [Ke hd']) hb
   · exact this
 simp only [wpOp, ho]
 have hfree : ∀ p ∈ al, (L.setIfInBounds j true).getD p.1 false = false → L.getD p.1 false = false ∧ p.1 ≠ j := fun p _ hL => by
  rw [dQ hjs] at hL
  split at hL
  · cases hL
  · exact ⟨hL, by assumption⟩
 have hmade : (∀ p ∈ al, p.1 ≠ j) → ∀ p ∈ al, (L.setIfInBounds j true).getD p.1 false = true → L.getD p.1 false = true := fun hno p hp hL => by
  rw [dQ hjs] at hL
  rw [if_neg (hno p hp)] at hL
  exact hL
 rcases hcase with ⟨hw, hrun⟩ | ⟨hw, hno, hv⟩
 ·
  have hwant := qg h.inv (fun t ht => ⟨huse t (by simp [dC, ht]), hbnd j o hj ho t ht⟩) hw
  rw [if_pos hwant]
  refine .inl ?_
  rcases hrun with ⟨hno, hstep⟩ | ⟨t, ji, id, hop, hti, hmem, hv⟩
  ·
   have hinv : dh N n0 w0 g0 ⟨ci o σ', H, O, nF⟩ a w g := { h.inv with
    slots := fun t => by
     rcases yf σ' (s9 o) t with e | ⟨h1, e⟩
     ·
      show bU w g (lk (ci o σ') t) _
      unfold ci; rw [e]; trivial
     ·
      show bU w g (lk (ci o σ') t) _
      unfold ci; rw [e, ← huse t (by simp [dC, h1])]
      exact h.inv.slots t
    cells := fun id off x hx => h.inv.cells id off x (h.old id off x hx) }
   have := hstep nF w0 g0 a w g hinv Q
   have hwp : o.wp P a w (fun a' w' => ∃ u top', a' = a.put o.dst u ∧ bU w' { g with top := top' } (lk σ' d) u ∧ PF w g.top w' top') Q := this
   refine Oper.wp_mono ?_ hwp
   rintro a' w' ⟨u, top', rfl, hr, hp⟩
   obtain ⟨hi', _⟩ := h.inv.called hp
   have hput := hi'.put hr (d := o.dst) (by rw [hd]; simpa [uw] using hdN)
   rw [hd] at hput ⊢
   exact hK _ _ { g with top := top' } HL ((d, lk σ' d) :: σL) ⟨hput, hslots' _ rfl, h.old, fun p hp' hL => h.made p hp' (hmade hno p hp' hL), fun p hp' hL => h.free p hp' (hfree p hp' hL).1⟩
  ·
   obtain ⟨hfb, hfo⟩ := h.free _ hmem (by show L.getD j false = false; rw [el hjs false true]; exact hjL)
   obtain ⟨inf, dd, z, h1⟩ := aV hti
   have hz : aG w g ji.zero z.cells.toList := by
    rw [h1.zeros]
    generalize z.cells.toList = l
    induction l with
    | nil => rfl
    | cons v l ih => exact ⟨v, l, rfl, iW v, ih⟩
   have hidn := hal _ hmem
   simp only at hidn hfb hfo
   obtain ⟨g', hi', hb, hbo, hown, htop⟩ := h.inv.allocAt hz t hfb hfo hidn.2 (Nat.le_refl _) (Nat.le_trans hn0 hidn.1)
   have hrun : (Instr.alloc t true (.tuple #[])).run P w = .ok (.pointer (some ⟨w.heap.size, 0, none⟩)) { w with heap := w.heap.push (.cells z.cells.toList.toArray t (0, 0)) } := by
    simp [Instr.alloc, h1.run_zero, newVar, newRow]
   have hex : (execOp a.eval o).run P w = .ok (.value (.pointer (some ⟨w.heap.size, 0, none⟩))) { w with heap := w.heap.push (.cells z.cells.toList.toArray t (0, 0)) } := by
    obtain ⟨dst, op, type, pos, after, guard⟩ := o
    subst hop
    exact dq hrun
   simp only [Oper.wp, hex, Oper.upon]
   have hput := hi'.put (d := o.dst) (v := .ptr id 0) (val := .pointer (some ⟨w.heap.size, 0, none⟩)) ⟨_, hb, rfl⟩ (by rw [hd]; simpa [uw] using hdN)
   rw [hd] at hput ⊢
   refine hK _ _ g' (gX id 0 ji.zero HL) ((d, .ptr id 0) :: σL) ⟨hput, hslots' _ hv.symm, ?_, ?_, ?_⟩
   ·
    intro i off x hx
    rw [jX, if_neg]
    · exact h.old i off x hx
    ·
     have := hH i off x hx
     intro hc
     omega
   ·
    intro p hp' hL off x hx
    rw [jX]
    by_cases hpj : p.1 = j
    ·
     obtain rfl := hun p hp' _ hmem (.inl hpj)
     simp only at hx ⊢
     have hlt : off < ji.zero.length := (List.getElem?_eq_some_iff.1 hx).1
     rw [if_pos ⟨trivial, Nat.zero_le _, by omega⟩]
     simpa using hx
    ·
     rw [if_neg]
     ·
      rw [dQ hjs, if_neg hpj] at hL
      exact h.made p hp' hL off x hx
     ·
      intro hc
      exact hpj (by rw [hun p hp' _ hmem (.inr hc.1)])
   ·
    intro p hp' hL
    obtain ⟨h2, h3⟩ := hfree p hp' hL
    have hne : p.2.1 ≠ id := fun e => h3 (by rw [hun p hp' _ hmem (.inr e)])
    rw [hbo _ hne, hown]
    exact h.free p hp' h2
 ·
  have hwant := qg h.inv (fun t ht => ⟨huse t (by simp [dC, ht]), hbnd j o hj ho t ht⟩) hw
  rw [if_neg (by simp [hwant])]
  have hput := h.inv.put (d := o.dst) lD (by rw [hd]; simpa [uw] using hdN)
  rw [hd] at hput ⊢
  exact hK _ _ g HL ((d, .tup []) :: σL) ⟨hput, hslots' _ hv.symm, h.old, fun p hp' hL => h.made p hp' (hmade hno p hp' hL), fun p hp' hL => h.free p hp' (hfree p hp' hL).1⟩
theorem vy : ∀ {l : List Oper}, Eg ops l = true → ∀ (i j : Nat) (o o' : Oper) (t : Nat), l[i]? = some o → l[j]? = some o' → o.dst = some t → o'.dst = some t → i = j
 | [], _, i, _, _, _, _, h, _, _, _ => by simp at h
 | q :: l, h, i, j, o, o', t, hi, hj, ho, ho' => by
  cases i with
  | zero =>
   simp at hi; subst hi
   cases j with
   | zero => rfl
   | succ j =>
    have hm : o' ∈ l := List.mem_of_getElem? (by simpa using hj)
    exact absurd ho' ((lx h ho).2.2 t (.inl rfl) o' hm)
  | succ i =>
   have hm : o ∈ l := List.mem_of_getElem? (by simpa using hi)
   cases j with
   | zero =>
    simp at hj; subst hj
    exact absurd ho ((lx h ho').2.2 t (.inl rfl) o hm)
   | succ j =>
    obtain ⟨d, hd⟩ : ∃ d, q.dst = some d := by
     simp only [Eg, Bool.and_eq_true] at h
     cases hq : q.dst with
     | none => simp [hq] at h
     | some d => exact ⟨d, rfl⟩
    rw [vy (lx h hd).1 i j o o' t (by simpa using hi) (by simpa using hj) ho ho']
def wq (N : Nat) (ops : Array Oper) (m : Nat) : Bool :=
 (List.range m).all fun j => match ops[j]? with
  | some o => (kU ops o).all fun t => Nat.blt t N
  | none => true
theorem ni {j : Nat} {p q : Nat → Bool} : ∀ {l : List Nat}, (∀ i ∈ l, q i = true → p i = true) → j ∈ l → p j = true → q j = false → (l.filter q).length + 1 ≤ (l.filter p).length
 | [], _, h, _, _ => by simp at h
 | x :: l, hpq, hj, hp, hq => by
  have hle : (l.filter q).length ≤ (l.filter p).length := by
   have : ∀ (l : List Nat), (∀ i ∈ l, q i = true → p i = true) → (l.filter q).length ≤ (l.filter p).length := by
    intro l
    induction l with
    | nil => intro _; simp
    | cons y l ih =>
     intro h
     have := ih (fun i hi => h i (by simp [hi]))
     have h2 := h y (by simp)
     cases hqy : q y <;> cases hpy : p y <;> simp [List.filter_cons, hqy, hpy] <;> first | omega | simp_all
   exact this l fun i hi => hpq i (by simp [hi])
  by_cases hx : x = j
  ·
   subst hx
   simp [List.filter_cons, hp, hq]; omega
  ·
   have hj' : j ∈ l := by simpa [Ne.symm hx] using hj
   have ih := ni (l := l) (fun i hi => hpq i (by simp [hi])) hj' hp hq
   have h2 := hpq x (by simp)
   cases hqx : q x <;> cases hpx : p x <;> simp [List.filter_cons, hqx, hpx] <;> first | omega | simp_all
def jA (m : Nat) (L : Array Bool) : Nat := ((List.range m).filter fun i => !L.getD i true).length
theorem EJ {m nF n : Nat} {σ σ' : List (Nat × AV)} {A' : List (Nat × Nat × AV)} {al : List (Nat × Nat × List AV)} {Q : bY} (hm : m ≤ ops.size) (h1 : mq ops m = true) (h2 : gS ops m = true)
  (h3 : gQ ops = true) (h4 : wq N ops m = true) (hok : Eg ops (ops.toList.take m) = true) (hH : ∀ id off x, d3 H id off = some x → id < n) (hn0 : n0 ≤ n)
  (pre : xd P N n0 ops H O 0 (ops.toList.take m) σ n H σ' nF A' al) (k : aM P N n0 ops (ops.toList.drop m) Q ⟨σ', A', O, nF⟩) :
  ∀ (fuel : Nat) (L : Array Bool) (a : Act) (w : World) (g : G) (HL : List (Nat × Nat × AV)) (σL : List (Nat × AV)), J P N n0 ops H O m nF σ' al w0 g0 L a w g HL σL → L.size = ops.size →
   (∀ i, m ≤ i → i < ops.size → L.getD i true = false) → jA m L + (ops.size - m) ≤ fuel → wpAny P .any ops (Q.at N n0 w0 g0) fuel L a w := by
 obtain ⟨hnn, hal, hun, hA⟩ := pre.als
 have hlen : (ops.toList.take m).length = m := by simp; omega
 have hget : ∀ i, i < m → (ops.toList.take m)[i]? = ops[i]? := fun i hi => by rw [List.getElem?_take]; simp [hi]
 have hdone : ∀ (fuel : Nat) (L : Array Bool) (a : Act) (w : World) (g : G) (HL : List (Nat × Nat × AV)) (σL : List (Nat × AV)), J P N n0 ops H O m nF σ' al w0 g0 L a w g HL σL → L.size = ops.size →
   (∀ i, m ≤ i → i < ops.size → L.getD i true = false) → (∀ i, i < m → L.getD i true = true) → ops.size - m ≤ fuel → wpAny P .any ops (Q.at N n0 w0 g0) fuel L a w := by
  intro fuel L a w g HL σL hJ hs hp hd hf
  refine yj h2 h3 fuel m L a w (Nat.le_refl _) hm hs (fun i hi => ?_) hf (k w0 g0 a w g { hJ.inv with
   slots := fun t => ?_
   cells := fun id off x hx => ?_ })
  ·
   by_cases him : i < m
   · rw [hd i him]; simp [him]
   · rw [hp i (by omega) hi]; simp [him]
  ·
   show bU w g (lk σ' t) _
   rw [← hJ.slots t fun i o hi _ _ => by rw [el (by omega) false true]; exact hd i hi]
   exact hJ.inv.slots t
  ·
   rcases hA id off x hx with h | ⟨p, hp', rfl, e⟩
   · exact hJ.inv.cells id off x (hJ.old id off x h)
   ·
    have hpl : p.1 < m := by have := hal p hp'; omega
    exact hJ.inv.cells _ off x (hJ.made p hp' (by rw [el (by omega) false true]; exact hd _ hpl) off x e)
 intro fuel
 induction fuel with
 | zero =>
  intro L a w g HL σL hJ hs hp hf
  refine hdone 0 L a w g HL σL hJ hs hp (fun i hi => ?_) (by omega)
  cases hh : L.getD i true with
  | true => rfl
  | false =>
   have : 0 < jA m L := List.length_pos_of_mem (a := i) (List.mem_filter.2 ⟨List.mem_range.2 hi, by simp [hh]⟩)
   omega
 | succ fuel ih =>
  intro L a w g HL σL hJ hs hp hf
  by_cases hall : ∃ j, j < m ∧ L.getD j true = false
  ·
   obtain ⟨j, ⟨hj, hjL⟩, hleast⟩ := jt hall
   have hjo : ops[j]? = some (ops[j]'(by omega)) := Array.getElem?_eq_getElem (by omega)
   have hready : j ∈ Region.ready .any ops L := by
    refine sx hjo hjL fun e he hbd => ?_
    have hb := h3
    unfold gQ at hb
    rw [List.all_eq_true] at hb
    have hb2 := hb j (List.mem_range.2 (by omega))
    rw [hjo] at hb2
    simp only at hb2
    rw [← Array.all_toList, List.all_eq_true] at hb2
    have hb3 := hb2 e he
    simp only [hbd, Bool.not_true, Bool.false_or] at hb3
    have hlt : e.on < j := by simpa using hb3
    rw [el (by omega) false true]
    cases hh : L.getD e.on true with
    | true => rfl
    | false => exact absurd (hleast e.on ⟨by omega, hh⟩) (by omega)
   refine ⟨fun h0 => (by rw [h0] at hready; cases hready), fun i hi => ?_⟩
   obtain ⟨o, ho, his, hiL, hedge⟩ := lw hi
   have him : i < m := by
    refine Classical.byContradiction fun hge => ?_
    have hpst := h2
    unfold gS at hpst
    rw [List.all_eq_true] at hpst
    have h8 := hpst i (List.mem_range.2 his)
    rw [ho] at h8
    simp only [Bool.or_eq_true] at h8
    rcases h8 with h8 | h8
    ·
     have : i < m := by simpa using h8
     omega
    ·
     rw [List.all_eq_true] at h8
     have h9 := fY (h8 j (List.mem_range.2 (by omega))) hedge
     rw [el (by omega) false true, hjL] at h9
     cases h9
   have hfact := pre.facts hok i o (by rw [hget i him]; exact ho)
   rw [Nat.zero_add] at hfact
   refine hJ.step hm hs hH hn0 (fun p hp' => (hal p hp').2.2) hun ?_ ?_ him ho hiL ?_ hfact ?_
   ·
    intro i o hi ho t ht i' o' hi' ho' ht'
    exact (vy hok i i' o o' t (by rw [hget i hi]; exact ho) (by rw [hget i' hi']; exact ho') ht ht').symm
   ·
    intro i o hi ho t ht
    have hg := h4
    unfold wq at hg
    rw [List.all_eq_true] at hg
    have hg2 := hg i (List.mem_range.2 hi)
    rw [ho] at hg2
    simp only at hg2
    rw [List.all_eq_true] at hg2
    simpa using hg2 t ht
   ·
    intro t ht i' o' hi' ho' ht'
    have hd := h1
    unfold mq at hd
    rw [List.all_eq_true] at hd
    have hd2 := hd i (List.mem_range.2 him)
    rw [ho] at hd2
    simp only at hd2
    rw [List.all_eq_true] at hd2
    have hd3 := hd2 i' (List.mem_range.2 hi')
    rw [ho'] at hd3
    simp only [Kd, ht'] at hd3
    rw [if_pos (by rw [List.contains_eq_mem]; simpa using ht)] at hd3
    exact fY hd3 hedge
   ·
    intro a' w' g' HL' σL' hJ'
    refine ih _ a' w' g' HL' σL' hJ' (by simp [hs]) (fun q hq hqs => ?_) ?_
    ·
     rw [dQ (by omega), if_neg (by omega)]
     exact hp q hq hqs
    ·
     have : jA m (L.setIfInBounds i true) + 1 ≤ jA m L := by
      refine ni (j := i) (fun q hq h => ?_) (List.mem_range.2 him) (by simp [hiL]) (by simp [dQ (show i < L.size by omega)])
      rw [dQ (by omega)] at h
      split at h
      · simp at h
      · exact h
     omega
  ·
   refine hdone _ L a w g HL σL hJ hs hp (fun i hi => ?_) (by omega)
   cases hh : L.getD i true with
   | true => rfl
   | false => exact absurd ⟨i, hi, hh⟩ hall
theorem Ep {id m n n' : Nat} {l : List Oper} {Q : bY} {σ σ' : List (Nat × AV)} {A' : List (Nat × Nat × AV)} {al : List (Nat × Nat × List AV)} (hmix : P.follows .mixedOrders = true) (hm : Nat.ble m l.length = true)
  (h1 : mq l.toArray m = true) (h2 : gS l.toArray m = true) (h3 : gQ l.toArray = true) (h4 : wq N l.toArray m = true) (hok : Eg l.toArray (l.take m) = true) (hH : uV n H = true)
  (pre : xd P N n0 l.toArray H O 0 (l.take m) σ n H σ' n' A' al) (k : aM P N n0 l.toArray (l.drop m) Q ⟨σ', A', O, n'⟩) : cg P N n0 (.region id l.toArray true) Q ⟨σ, H, O, n⟩ := by
 intro w0 g0 a w g hi
 obtain ⟨hnn, hal, hun, hA⟩ := pre.als
 have hle : m ≤ l.length := by simpa using hm
 refine wp_region_any hmix ?_
 have hp : PF w g.top { w with drawn := w.drawn + 1 } g.top := ⟨(Below.refl w.heap.size w).drew, fun _ _ => rfl, hi.wf.topNew⟩
 have hi1 := (hi.called hp).1
 have hblk : ∀ i, n ≤ i → g.blk i = none := fun i hn => by
  cases hb : g.blk i with
  | none => rfl
  | some b => have := (hi.wf.blkOwner _ _ hb).2.2.2; simp only at this; omega
 have hown : ∀ i, n ≤ i → g.own i = none := fun i hn => by
  cases hb : g.own i with
  | none => rfl
  | some b => have := hi.wf.ownLt _ _ hb; simp only at this; omega
 refine EJ (nF := n') (σ := σ) (σ' := σ') (A' := A') (by simpa using hle) h1 h2 h3 h4 (by simpa using hok) (fun id off x hx => ym hH id off x hx) hi.nle (by simpa using pre) (by simpa using k) _ _ a _ { g with top := g.top } H σ
  ⟨{ hi1 with
   wf := { hi1.wf with
    blkOwner := fun id b hb => by
     obtain ⟨k1, k2, k3, k4⟩ := hi1.wf.blkOwner id b hb
     exact ⟨k1, k2, k3, Nat.lt_of_lt_of_le k4 hnn⟩
    ownLt := fun id v hv => Nat.lt_of_lt_of_le (hi1.wf.ownLt id v hv) hnn
    idLt := fun b i hb => Nat.lt_of_lt_of_le (hi1.wf.idLt b i hb) hnn }
   nle := Nat.le_trans hi1.nle hnn
   laid := hi1.laid }, ?_, fun _ _ _ h => h, ?_, fun p hp _ => ⟨hblk _ (hal p hp).2.2.1, hown _ (hal p hp).2.2.1⟩⟩ (by simp) ?_ ?_
 ·
  intro t ht
  refine (pre.lk_same t fun o ho hd => ?_).symm
  obtain ⟨i, hi'⟩ := List.mem_iff_getElem?.1 ho
  rw [List.getElem?_take] at hi'
  split at hi'
  ·
   rename_i him
   have := ht i o him (by simpa using hi') hd
   rw [Array.getD_eq_getD_getElem?] at this
   simp [Array.getElem?_replicate] at this
   split at this <;> simp at this
  · cases hi'
 ·
  intro p hp hL
  rw [Array.getD_eq_getD_getElem?] at hL
  simp [Array.getElem?_replicate] at hL
  split at hL <;> simp at hL
 ·
  intro i _ his
  rw [Array.getD_eq_getD_getElem?]
  simp at his
  simp [Array.getElem?_replicate, his]
 ·
  have : jA m (Array.replicate l.toArray.size false) ≤ m := by
   unfold jA
   exact Nat.le_trans (List.length_filter_le _ _) (by simp)
  simp at hle ⊢
  simp at this
  omega
end
end Go.Pv
namespace Go.Pv
set_option linter.unusedSimpArgs false
set_option linter.unusedSectionVars false
set_option linter.unusedVariables false
section
variable {P : Program} [dI P] {N n0 : Nat} {Q : bY} {ops : Array Oper} {rest : List Oper} {σ : List (Nat × AV)} {H A : List (Nat × Nat × AV)} {O : List (Nat × Kind)} {n i : Nat}
 {d : Nat} {op : Op} {ty : TypeId} {pos : String} {af : Array Edge} {gd : Option (Nat × Bool)}
def DP (P : Program) [dI P] (N n0 : Nat) (ops : Array Oper) (H : List (Nat × Nat × AV)) (O : List (Nat × Kind)) (i : Nat) (l : List Oper) (σ : List (Nat × AV)) (n : Nat) (A : List (Nat × Nat × AV))
 (K : St → Prop) : Prop := ∃ σ' n' A' al, xd P N n0 ops H O i l σ n A σ' n' A' al ∧ K ⟨σ', A', O, n'⟩
theorem G3 {id m : Nat} {l : List Oper} (hmix : P.follows .mixedOrders = true) (hm : Nat.ble m l.length = true)
  (h1 : mq l.toArray m = true) (h2 : gS l.toArray m = true) (h3 : gQ l.toArray = true) (h4 : wq N l.toArray m = true) (hok : Eg l.toArray (l.take m) = true) (hH : uV n H = true)
  (k : DP P N n0 l.toArray H O 0 (l.take m) σ n H (aM P N n0 l.toArray (l.drop m) Q)) : cg P N n0 (.region id l.toArray true) Q ⟨σ, H, O, n⟩ := by
 obtain ⟨σ', n', A', al, hp, hk⟩ := k
 exact Ep hmix hm h1 h2 h3 h4 hok hH hp hk
theorem dn {K : St → Prop} (h : K ⟨σ, A, O, n⟩) : DP P N n0 ops H O i [] σ n A K := ⟨σ, n, A, [], .nil, h⟩
theorem dv {K : St → Prop} {v : AV} (hd : Nat.blt d N = true) (hg : bH ops σ gd = some true) (hv : ∀ m, HN (oF P ⟨ci ⟨some d, op, ty, pos, af, gd⟩ σ, H, O, m⟩ op) = some v)
  (k : DP P N n0 ops H O (i + 1) rest ((d, v) :: σ) n A K) : DP P N n0 ops H O i (⟨some d, op, ty, pos, af, gd⟩ :: rest) σ n A K := by
 obtain ⟨σ', n', A', al, hp, hk⟩ := k
 exact ⟨σ', n', A', al, .go rfl hd hg (fun m => tW (by have := hv m; rw [qy] at this; exact this)) hp, hk⟩
theorem bB {K : St → Prop} (hd : Nat.blt d N = true) (hg : bH ops σ gd = some false) (k : DP P N n0 ops H O (i + 1) rest ((d, .tup []) :: σ) n A K) :
  DP P N n0 ops H O i (⟨some d, op, ty, pos, af, gd⟩ :: rest) σ n A K := by
 obtain ⟨σ', n', A', al, hp, hk⟩ := k
 exact ⟨σ', n', A', al, .no rfl hd hg hp, hk⟩
theorem vS {e : Nat} {v : AV} (h : lk σ e = v) (t : Nat) : lk ((e, v) :: σ) t = lk σ t := by
 simp only [lk]
 by_cases hb : Nat.beq e t = true
 ·
  have : e = t := by simpa using hb
  subst this
  rw [if_pos hb, h]
 · rw [if_neg hb]
theorem ds {K : St → Prop} {j e : Nat} {want b : Bool} (hj : fq ops j = some e) (hb : lk σ e = .bool b)
  (yes : b = true → DP P N n0 ops H O i (⟨some d, op, ty, pos, af, some (j, want)⟩ :: rest) ((e, .bool true) :: σ) n A K)
  (no : b = false → DP P N n0 ops H O i (⟨some d, op, ty, pos, af, some (j, want)⟩ :: rest) ((e, .bool false) :: σ) n A K) :
  DP P N n0 ops H O i (⟨some d, op, ty, pos, af, some (j, want)⟩ :: rest) σ n A K := by
 cases b with
 | true =>
  obtain ⟨σ', n', A', al, hp, hk⟩ := yes rfl
  exact ⟨σ', n', A', al, .eqv (vS hb) hp, hk⟩
 | false =>
  obtain ⟨σ', n', A', al, hp, hk⟩ := no rfl
  exact ⟨σ', n', A', al, .eqv (vS hb) hp, hk⟩
theorem dc {K : St → Prop} {fop : Operand} {args : Array Operand} {ats : Array TypeId} {f : FuncId} {r : AV} (hd : Nat.blt d N = true) (hg : bH ops σ gd = some true) (hf : ev σ fop = .fn f [])
  (hr : ev (ci ⟨some d, .call ⟨.value fop, args, ats⟩, ty, pos, af, gd⟩ σ) fop = .fn f [])
  (hc : ∀ m, dT 0 (args.toList.map (gj ⟨ci ⟨some d, .call ⟨.value fop, args, ats⟩, ty, pos, af, gd⟩ σ, H, O, m⟩)) = true)
  (call : ∀ m, ai P f (args.toList.map (gj ⟨ci ⟨some d, .call ⟨.value fop, args, ats⟩, ty, pos, af, gd⟩ σ, H, O, m⟩)) (· = r))
  (k : DP P N n0 ops H O (i + 1) rest ((d, r) :: σ) n A K) : DP P N n0 ops H O i (⟨some d, .call ⟨.value fop, args, ats⟩, ty, pos, af, gd⟩ :: rest) σ n A K := by
 obtain ⟨σ', n', A', al, hp, hk⟩ := k
 exact ⟨σ', n', A', al, .go rfl hd hg (fun m => uZ (caps := []) rfl hr (by rw [List.append_nil]; exact hc m) (by rw [List.append_nil]; exact call m)) hp, hk⟩
theorem da {K : St → Prop} {t : TypeId} {j : TI} (hd : Nat.blt d N = true) (hg : bH ops σ gd = some true) (ht : ti P t = some j)
  (k : DP P N n0 ops H O (i + 1) rest ((d, .ptr n 0) :: σ) (n + 1) (gX n 0 j.zero A) K) : DP P N n0 ops H O i (⟨some d, .alloc t, ty, pos, af, gd⟩ :: rest) σ n A K := by
 obtain ⟨σ', n', A', al, hp, hk⟩ := k
 exact ⟨σ', n', A', _, .al rfl hd hg rfl ht hp, hk⟩
theorem qA {w : World} {g : G} {t e : TypeId} {j je : TI} {k : IntKind} {ix : Int} {xs : List (List AV)} {r : List AV} {u v : Value} (ht : ti P t = some j) (hk : j.k = .slice e) (he : ti P e = some je)
  (hx : bU w g (.sl xs) u) (hv : bU w g (.int k ix) v) (h0 : 0 ≤ ix) (hr : xs[ix.toNat]? = some r) (hw : eB je.size xs) :
  ∃ q, (Instr.indexAt t u v).run P w = .ok q w ∧ bU w g (.rd r) q := by
 obtain ⟨_, _, _, h1⟩ := aV ht
 obtain ⟨_, _, _, h2⟩ := aV he
 have hd := h1.desc_slice hk
 subst hd
 obtain ⟨a, cap, rfl, hc, hn, had⟩ := hx
 obtain rfl : v = _ := hv
 have hlt : ix.toNat < xs.length := (List.getElem?_eq_some_iff.1 hr).1
 cases a with
 | none => rw [hn rfl] at hlt; simp at hlt
 | some ad =>
  obtain ⟨hs, hrows⟩ := had ad rfl
  obtain ⟨b, o, sp⟩ := ad
  simp only at hs hrows
  have hs' := hs (by intro e; rw [e] at hlt; simp at hlt)
  subst hs'
  have hcond : 0 ≤ ix ∧ ix < (xs.length : Int) := ⟨h0, by omega⟩
  refine ⟨.pointer (some ⟨b, o + ix.toNat * je.size, none⟩), ?_, b, _, rfl, hrows.get hw hr⟩
  have hpe : P.elem t = e := by simp [Program.elem, h1.und]
  rw [run_indexAt_slice w t ⟨b, o, none⟩ xs.length cap k ix (by rw [h1.und, hpe]), if_pos hcond, hpe]
  simp [h2.run_size, dz]
theorem ri {t e : TypeId} {x ix : Operand} {j je : TI} {k : IntKind} {iv : Int} {xs : List (List AV)} {r : List AV} (hd : Nat.blt d N = true) (ht : ti P t = some j) (hk : j.k = .slice e) (he : ti P e = some je)
  (hx : gj ⟨σ, H, O, n⟩ x = .sl xs) (hi : ev σ ix = .int k iv) (h0 : 0 ≤ iv) (hr : xs[iv.toNat]? = some r) (hw : eB je.size xs)
  (kk : aM P N n0 ops rest Q ⟨(d, .rd r) :: σ, H, O, n⟩) : aM P N n0 ops (⟨some d, .indexAddr t x ix, ty, pos, af, none⟩ :: rest) Q ⟨σ, H, O, n⟩ :=
 gV rfl (fun w0 g0 a w g hin => by
  have h1 := dJ hin x
  rw [hx] at h1
  have h2 := bA hin.slots ix
  rw [show ev (St.mk σ H O n).σ ix = _ from hi] at h2
  obtain ⟨q, hq, hrq⟩ := qA ht hk he h1 h2 h0 hr hw
  exact ⟨q, w, g, bG hq, hin.put (d := some d) hrq hd⟩) kk
theorem di {K : St → Prop} {t e : TypeId} {x ix : Operand} {j je : TI} {k : IntKind} {iv : Int} {xs : List (List AV)} {r : List AV} (hd : Nat.blt d N = true) (hg : bH ops σ gd = some true)
  (ht : ti P t = some j) (hk : j.k = .slice e) (he : ti P e = some je)
  (hx : ∀ m, gj ⟨ci ⟨some d, .indexAddr t x ix, ty, pos, af, gd⟩ σ, H, O, m⟩ x = .sl xs) (hi : ev (ci ⟨some d, .indexAddr t x ix, ty, pos, af, gd⟩ σ) ix = .int k iv)
  (h0 : 0 ≤ iv) (hr : xs[iv.toNat]? = some r) (hw : eB je.size xs)
  (kk : DP P N n0 ops H O (i + 1) rest ((d, .rd r) :: σ) n A K) : DP P N n0 ops H O i (⟨some d, .indexAddr t x ix, ty, pos, af, gd⟩ :: rest) σ n A K := by
 obtain ⟨σ', n', A', al, hp, hk'⟩ := kk
 refine ⟨σ', n', A', al, .go rfl hd hg (fun m => mi fun w0 g0 a w g hin => ?_) hp, hk'⟩
 have h1 := dJ hin x
 rw [hx m] at h1
 have h2 := bA hin.slots ix
 rw [hi] at h2
 obtain ⟨q, hq, hrq⟩ := qA ht hk he h1 h2 h0 hr hw
 exact ⟨q, bG hq, hrq⟩
end
theorem rr {P : Program} [dI P] {rs : List ResultVar} {K : AV → Prop} {s : St} {r : AV} (h : HN (tQ P s rs) = some r) (hl : r.lim 0 = true) (hk : K r) : vZ P rs K .ret s :=
 ⟨r, by rw [qy] at h; exact h, hl, hk⟩
end Go.Pv
namespace Go.Pv
open Go.RowKit (Below)
open Go.ChangeShapes Go.WideShapes
set_option linter.unusedSimpArgs false
set_option linter.unusedSectionVars false
set_option linter.unusedVariables false
def ed (w : World) : Nat → Nat := fun b => match w.heap[b]? with
 | some (.cells c _ _) => c.size
 | _ => 0
theorem mP (w : World) (b : Nat) (h : w.heap.size ≤ b) : ed w b = 0 := by
 have : w.heap[b]? = none := by simp [h]
 simp [ed, this]
theorem pW {w : World} {a : Addr} {v : Value} (h : w.cell? a = some v) : a.off < ed w a.block ∧ a.spot = none := by
 unfold World.cell? at h
 unfold ed
 split at h
 ·
  rename_i c e fr hc
  split at h
  · cases h
  ·
   rename_i hs
   have h2 := (Array.getElem?_eq_some_iff.1 h).1
   rw [hc]
   exact ⟨h2, by cases hh : a.spot <;> simp_all⟩
 · cases h
def EE (P : Program) [dI P] (D : TypeId → List AV → Prop) : List (Nat × TypeId) → List AV → Prop
 | [], cs => cs = []
 | (_, t) :: r, cs => ∃ a b, cs = a ++ b ∧ (∀ j, ti P t = some j → a.length = j.size) ∧ D t a ∧ EE P D r b
def kB (P : Program) [dI P] : Nat → TypeId → List AV → Prop
 | 0, _, _ => False
 | f + 1, t, cs => match ti P t with
  | none => False
  | some i => match i.k with
   | .bool => ∃ b, cs = [.bool b]
   | .int k => ∃ n, cs = [.int k n] ∧ (Lit.int k n).wf = true
   | .str => ∃ s, cs = [.str s] ∧ s.size ≤ maxLen
   | .slice e => ∃ xs, cs = [.sl xs] ∧ xs.length ≤ maxLen ∧ ∀ r ∈ xs, (∀ j, ti P e = some j → r.length = j.size) ∧ kB P f e r
   | .struct _ fs => EE P (kB P f) fs cs
   | _ => False
def na (P : Program) [dI P] : Nat → List (Nat × TypeId) → Nat → Bool
 | off, [], n => Nat.beq off n
 | off, (o, t) :: r, n => Nat.beq o off && (match ti P t with | some j => na P (off + j.size) r n | none => false)
def zn (P : Program) [dI P] (S : List TypeId) : Bool :=
 S.all fun t => match ti P t with
  | none => false
  | some i => match i.k with
   | .bool | .int _ | .str => true
   | .slice e => S.contains e && (match ti P e with | some j => !Nat.beq j.size 0 | none => false)
   | .struct _ fs => na P 0 fs i.size && fs.all fun p => S.contains p.2
   | _ => false
section
variable {H : Type} {enc : TypeId × Value → H} {P : Program} [dI P] {w : World} {nT : Nat} {spare : Nat → Bool} {held : Bool}
theorem pg {t : TypeId} {i : TI} {inf : TypeInfo} {d : TypeDesc} {z : Value} (h : fU P t i inf d z) : P.cellsOf t = i.size := by
 simp [Program.cellsOf, h.info, h.size]
theorem Bv {a : Addr} {n : Nat} {vs : List Value} (h : w.cells? nT a n = some vs) : vs.length = n ∧ ∀ j v, vs[j]? = some v → w.cell? (a.add j) = some v := by
 unfold World.cells? at h
 split at h
 ·
  have hm := h
  have key : ∀ (l : List Nat) (vs : List Value), (l.mapM fun i => w.cell? (a.add i)) = some vs → vs.length = l.length ∧ ∀ (j : Nat) (v : Value) (k : Nat), vs[j]? = some v → l[j]? = some k → w.cell? (a.add k) = some v := by
   intro l
   induction l with
   | nil => intro vs h; simp at h; subst h; simp
   | cons x l ih =>
    intro vs h
    simp only [List.mapM_cons] at h
    cases hx : w.cell? (a.add x) with
    | none => simp [hx] at h
    | some u =>
     cases hr : l.mapM fun i => w.cell? (a.add i) with
     | none => simp [hx, hr] at h
     | some us =>
      simp [hx, hr] at h
      subst h
      obtain ⟨h1, h2⟩ := ih us hr
      refine ⟨by simp [h1], fun j v k hj hk => ?_⟩
      cases j with
      | zero => simp at hj hk; subst hj; subst hk; exact hx
      | succ j => exact h2 j v k (by simpa using hj) (by simpa using hk)
  obtain ⟨h1, h2⟩ := key _ _ hm
  refine ⟨by simpa using h1, fun j v hj => h2 j v j hj ?_⟩
  have : j < n := by
   have := (List.getElem?_eq_some_iff.1 hj).1
   rw [h1] at this; simpa using this
  simp [this]
 · cases h
theorem nq {top : Nat → Nat} {b : Nat} : ∀ {cs : List AV} {vs : List Value} {o : Nat}, aG w (G.ofTop top) cs vs → (∀ j v, vs[j]? = some v → w.cell? ⟨b, o + j, none⟩ = some v ∧ o + j < top b) →
  cq w top b o cs
 | [], _, _, _, _ => trivial
 | x :: cs, _, o, ⟨v, vs', e, r, rest⟩, h => by
  subst e
  have h0 := h 0 v (by simp)
  refine ⟨⟨h0.2, v, h0.1, r⟩, nq rest fun j u hu => ?_⟩
  have := h (j + 1) u (by simpa using hu)
  rwa [show o + (j + 1) = o + 1 + j by omega] at this
theorem aG.one {top : Nat → Nat} {x : AV} {v : Value} (h : bU w (G.ofTop top) x v) : aG w (G.ofTop top) [x] [v] := ⟨v, [], rfl, h, rfl⟩
theorem qT {S : List TypeId} {n : Nat} {vs : List Value}
  (ih : ∀ t us x, t ∈ S → DataW.trod enc P w nT spare held n t us = some x → ∃ cs, aG w (G.ofTop (ed w)) cs us ∧ kB P n t cs) :
  ∀ (fs : List (Nat × TypeId)) (off : Nat), na P off fs vs.length = true → (∀ p ∈ fs, p.2 ∈ S) →
   (∀ p ∈ fs, ∃ x, DataW.trod enc P w nT spare held n p.2 ((vs.drop p.1).take (P.cellsOf p.2)) = some x) →
   ∃ cs, aG w (G.ofTop (ed w)) cs (vs.drop off) ∧ EE P (kB P n) fs cs
 | [], off, hc, _, _ => by
  simp only [na, Nat.beq_eq] at hc
  subst hc
  exact ⟨[], by simp [aG], rfl⟩
 | (o, t) :: r, off, hc, hS, hx => by
  simp only [na, Bool.and_eq_true, Nat.beq_eq] at hc
  obtain ⟨rfl, hc⟩ := hc
  cases hj : ti P t with
  | none => simp [hj] at hc
  | some j =>
   simp only [hj] at hc
   obtain ⟨_, _, _, ht⟩ := aV hj
   obtain ⟨x, hx0⟩ := hx (o, t) (by simp)
   obtain ⟨a, ha, hda⟩ := ih t _ x (hS (o, t) (by simp)) hx0
   obtain ⟨b, hb, hdb⟩ := qT ih r (o + j.size) hc (fun p hp => hS p (by simp [hp])) (fun p hp => hx p (by simp [hp]))
   have hcell : P.cellsOf t = j.size := pg ht
   simp only [hcell] at ha
   refine ⟨a ++ b, ?_, a, b, rfl, fun j' hj' => ?_, hda, hdb⟩
   ·
    have : vs.drop o = (vs.drop o).take j.size ++ vs.drop (o + j.size) := by
     rw [← List.drop_drop]; exact (List.take_append_drop _ _).symm
    rw [this]
    exact aG.append ha hb
   ·
    rw [hj] at hj'
    obtain rfl := Ke hj'
    have h1 := ha.length
    have h2 : o + j.size ≤ vs.length := by
     have : ∀ (fs : List (Nat × TypeId)) (k : Nat), na P k fs vs.length = true → k ≤ vs.length := by
      intro fs
      induction fs with
      | nil => intro k h; simp only [na, Nat.beq_eq] at h; omega
      | cons q fs ihf =>
       intro k h
       obtain ⟨o', t'⟩ := q
       simp only [na, Bool.and_eq_true, Nat.beq_eq] at h
       cases hq : ti P t' with
       | none => simp [hq] at h
       | some jj =>
        simp only [hq] at h
        have := ihf _ h.2
        omega
     exact this r _ hc
    rw [← h1]
    simp
    omega
theorem tU {S : List TypeId} (hS : zn P S = true) : ∀ (n : Nat) (t : TypeId) (vs : List Value) (x : DataW H × List MemPlace), t ∈ S → DataW.trod enc P w nT spare held n t vs = some x →
  ∃ cs, aG w (G.ofTop (ed w)) cs vs ∧ kB P n t cs
 | 0, _, _, _, _, h => by simp [DataW.trod] at h
 | n + 1, t, vs, x, ht, h => by
  have hS' := hS
  unfold zn at hS'
  rw [List.all_eq_true] at hS'
  have hk := hS' t ht
  cases hi : ti P t with
  | none => simp [hi] at hk
  | some i =>
   simp only [hi] at hk
   obtain ⟨inf, d, z, hT⟩ := aV hi
   cases hkk : i.k <;> simp only [hkk] at hk <;> first | (cases hk; done) | skip
   case bool =>
    obtain ⟨b, rfl, _⟩ := DataW.trod_bool (by rw [hT.und, hT.desc_bool hkk]) h
    exact ⟨[.bool b], aG.one rfl, by simp only [kB, hi, hkk]; exact ⟨b, rfl⟩⟩
   case int k =>
    obtain ⟨m, rfl, _, hw⟩ := DataW.trod_int (by rw [hT.und, hT.desc_int hkk]) h
    exact ⟨[.int k m], aG.one rfl, by simp only [kB, hi, hkk]; exact ⟨m, rfl, hw⟩⟩
   case str =>
    obtain ⟨s, rfl, _, hw⟩ := DataW.trod_string (by rw [hT.und, hT.desc_str hkk]) h
    exact ⟨[.str s], aG.one rfl, by simp only [kB, hi, hkk]; exact ⟨s, rfl, hw⟩⟩
   case struct q fs =>
    simp only [Bool.and_eq_true, List.all_eq_true] at hk
    obtain ⟨fl, hd, hfs, _⟩ := hT.desc_struct hkk
    obtain ⟨xs, m, hm, _, hlen, hxl, hget⟩ := DataW.trod_struct (by rw [hT.und, hd]) h
    obtain rfl : m = n := by omega
    rw [pg hT] at hlen
    obtain ⟨cs, h1, h2⟩ := qT (vs := vs) (S := S) (fun t us x ht h => tU hS m t us x ht h) fs 0 (by rw [hlen]; exact hk.1)
     (fun p hp => by have := hk.2 p hp; rw [List.contains_eq_mem] at this; simpa using this)
     (fun p hp => by
      rw [hfs] at hp
      obtain ⟨f, hf, rfl⟩ := List.mem_map.1 hp
      obtain ⟨k, hk'⟩ := List.mem_iff_getElem?.1 hf
      have hg := hget k f (by simpa using hk')
      have hlt : k < xs.length := by
       rw [hxl]
       have := (List.getElem?_eq_some_iff.1 hk').1
       simpa using this
      rw [List.getElem?_eq_getElem hlt] at hg
      exact ⟨_, hg⟩)
    exact ⟨cs, by simpa using h1, by simp only [kB, hi, hkk]; exact h2⟩
   case slice e =>
    simp only [Bool.and_eq_true] at hk
    have hes : e ∈ S := by have := hk.1; rw [List.contains_eq_mem] at this; simpa using this
    cases hj : ti P e with
    | none => simp [hj] at hk
    | some j =>
     simp only [hj, Bool.not_eq_true'] at hk
     obtain ⟨_, _, _, hE⟩ := aV hj
     have hsz : P.cellsOf e = j.size := pg hE
     have hpos : 0 < j.size := by
      have h2 := hk.2
      rw [Bool.eq_false_iff, ne_eq, Nat.beq_eq] at h2
      omega
     rcases DataW.trod_slice (by rw [hT.und, hT.desc_slice hkk]) h with ⟨rfl, _⟩ | ⟨a, len, cap, elems, rest, m, hm, rfl, _, _, hlc, hcm, hel, hget, _⟩
     · exact ⟨[.sl []], aG.one ⟨none, 0, rfl, Nat.le_refl _, fun _ => rfl, fun _ h => by cases h⟩, by simp only [kB, hi, hkk]; exact ⟨[], rfl, Nat.zero_le _, by simp⟩⟩
     ·
      obtain rfl : m = n := by omega
      have hrow : ∀ k, k < len → ∃ cs vs, aG w (G.ofTop (ed w)) cs vs ∧ kB P m e cs ∧ cs.length = j.size ∧ vs.length = j.size ∧ ∀ q v, vs[q]? = some v → w.cell? ((a.add (k * j.size)).add q) = some v := by
       intro k hk'
       have hg := hget k hk'
       have hlt : k < elems.length := by omega
       rw [List.getElem?_eq_getElem hlt, hsz] at hg
       cases hc : w.cells? nT (a.add (k * j.size)) j.size with
       | none => rw [hc] at hg; simp at hg
       | some us =>
        rw [hc] at hg
        simp only [Kd] at hg
        obtain ⟨cs, h1, h2⟩ := tU hS m e us _ hes hg
        obtain ⟨h3, h4⟩ := Bv hc
        exact ⟨cs, us, h1, h2, by rw [← h1.length, h3], h3, h4⟩
      have hspot : 0 < len → a.spot = none := by
       intro h0
       obtain ⟨cs, us, h1, _, _, h4, h5⟩ := hrow 0 h0
       have := h5 0 us[0] (List.getElem?_eq_getElem (by omega))
       simp only [Nat.zero_mul] at this
       have h6 := (pW this).2
       simpa [Addr.add] using h6
      have hrows : ∀ k, k ≤ len → ∃ xs : List (List AV), xs.length = len - k ∧ (∀ r ∈ xs, r.length = j.size ∧ kB P m e r) ∧ (0 < len → bk w (ed w) a.block (a.off + k * j.size) xs) := by
       intro k hk'
       induction hd : len - k generalizing k with
       | zero => exact ⟨[], rfl, by simp, fun _ => trivial⟩
       | succ dd ihd =>
        obtain ⟨xs, h1, h2, h3⟩ := ihd (k + 1) (by omega) (by omega)
        obtain ⟨cs, us, g1, g2, g3, g4, g5⟩ := hrow k (by omega)
        refine ⟨cs :: xs, by simp [h1], ?_, fun h0 => ⟨?_, ?_⟩⟩
        ·
         intro r hr
         rcases List.mem_cons.1 hr with rfl | hr
         · exact ⟨g3, g2⟩
         · exact h2 r hr
        ·
         refine nq g1 fun q v hq => ?_
         have := g5 q v hq
         have hs := hspot h0
         obtain ⟨ab, ao, sp⟩ := a
         simp only at hs
         subst hs
         rw [dz, dz] at this
         exact ⟨this, (pW this).1⟩
        ·
         have := h3 h0
         rw [g3]
         rwa [Nat.add_mul, Nat.one_mul, ← Nat.add_assoc] at this
      obtain ⟨xs, h1, h2, h3⟩ := hrows 0 (Nat.zero_le _)
      simp only [Nat.sub_zero, Nat.zero_mul, Nat.add_zero] at h1 h3
      refine ⟨[.sl xs], aG.one ⟨some a, cap, by rw [h1], by rw [h1]; exact hlc, (fun e => by cases e), fun ad had => ?_⟩, ?_⟩
      ·
       obtain rfl := Ke had
       refine ⟨fun hne => hspot ?_, ?_⟩
       · rw [← h1]; exact List.length_pos_iff.2 hne
       ·
        by_cases h0 : 0 < len
        · exact h3 h0
        ·
         have : xs = [] := List.eq_nil_of_length_eq_zero (by omega)
         subst this; trivial
      ·
       simp only [kB, hi, hkk]
       exact ⟨xs, rfl, by omega, fun r hr => ⟨fun j' hj' => by rw [hj] at hj'; obtain rfl := Ke hj'; exact (h2 r hr).1, (h2 r hr).2⟩⟩
def BE (P : Program) [dI P] (t : TypeId) (x : AV) : Prop :=
 ∃ n, match ti P t with
  | some i => (match i.k with
   | .struct _ _ => ∃ cs, x = .agg cs ∧ kB P n t cs
   | _ => kB P n t [x])
  | none => False
def rl (P : Program) [dI P] : List TypeId → List AV → Prop
 | [], [] => True
 | t :: ts, x :: xs => BE P t x ∧ rl P ts xs
 | _, _ => False
theorem Ei {S : List TypeId} {base' : Nat} (hS : zn P S = true) {t : TypeId} {v : Value} {d : DataW H} {ps : List MemPlace} (ht : t ∈ S) (h : DataW.Trod enc P w nT spare held t v d ps) (hv : Value.okWide P w .any base' t v) :
  ∃ x, bU w (G.ofTop (ed w)) x v ∧ BE P t x := by
 obtain ⟨n, hn⟩ := h
 obtain ⟨cs, hr, hd⟩ := tU hS n t _ _ ht hn
 have hS' := hS
 unfold zn at hS'
 rw [List.all_eq_true] at hS'
 have hk := hS' t ht
 cases hi : ti P t with
 | none => simp [hi] at hk
 | some i =>
  simp only [hi] at hk
  obtain ⟨inf, dd, z, hT⟩ := aV hi
  have one : ∀ {x : AV}, cs = [x] → v.cells = #[v] → bU w (G.ofTop (ed w)) x v := by
   intro x hx hv
   subst hx
   rw [hv] at hr
   obtain ⟨u, us, e, r, _⟩ := hr
   simp at e
   rw [e.1]; exact r
  cases hkk : i.k <;> simp only [hkk] at hk <;> first | (cases hk; done) | skip
  case bool =>
   obtain ⟨b, rfl⟩ := okWide_bool (by rw [hT.und, hT.desc_bool hkk]) hv
   cases n with
   | zero => exact hd.elim
   | succ n =>
    have hd' := hd
    simp only [kB, hi, hkk] at hd'
    obtain ⟨c, rfl⟩ := hd'
    exact ⟨_, one Z Z, n + 1, by simp only [hi, hkk]; exact hd⟩
  case int k =>
   obtain ⟨b, rfl⟩ := okWide_int (by rw [hT.und, hT.desc_int hkk]) hv
   cases n with
   | zero => exact hd.elim
   | succ n =>
    have hd' := hd
    simp only [kB, hi, hkk] at hd'
    obtain ⟨c, rfl, _⟩ := hd'
    exact ⟨_, one Z Z, n + 1, by simp only [hi, hkk]; exact hd⟩
  case str =>
   obtain ⟨b, rfl⟩ := okWide_string (by rw [hT.und, hT.desc_str hkk]) hv
   cases n with
   | zero => exact hd.elim
   | succ n =>
    have hd' := hd
    simp only [kB, hi, hkk] at hd'
    obtain ⟨c, rfl, _⟩ := hd'
    exact ⟨_, one Z Z, n + 1, by simp only [hi, hkk]; exact hd⟩
  case slice e =>
   obtain ⟨a, l, c, rfl⟩ := okWide_slice (by rw [hT.und, hT.desc_slice hkk]) hv
   cases n with
   | zero => exact hd.elim
   | succ n =>
    have hd' := hd
    simp only [kB, hi, hkk] at hd'
    obtain ⟨c, rfl, _⟩ := hd'
    exact ⟨_, one Z Z, n + 1, by simp only [hi, hkk]; exact hd⟩
  case struct q fs =>
   obtain ⟨fl, hds, _, _⟩ := hT.desc_struct hkk
   obtain ⟨us, rfl, _⟩ := okWide_struct (by rw [hT.und, hds]) hv
   exact ⟨.agg cs, ⟨us.toList, by simp, hr⟩, n, by simp only [hi, hkk]; exact ⟨cs, rfl, hd⟩⟩
theorem uT {S : List TypeId} {base' : Nat} (hS : zn P S = true) : ∀ {ts : List TypeId} {vs : List Value} {ds : List (DataW H)} {ps : List MemPlace}, (∀ t ∈ ts, t ∈ S) → DataW.TrodAll enc P w nT spare held ts vs ds ps →
  (∀ (j : Nat) t v, ts[j]? = some t → vs[j]? = some v → Value.okWide P w .any base' t v) → ∃ xs, aG w (G.ofTop (ed w)) xs vs ∧ rl P ts xs
 | [], [], [], _, _, _, _ => ⟨[], rfl, trivial⟩
 | t :: ts, v :: vs, d :: ds, _, hm, ⟨p, q, h1, h2, _⟩, hv => by
  obtain ⟨x, hx, hdx⟩ := Ei hS (hm t (by simp)) h1 (hv 0 t v rfl rfl)
  obtain ⟨xs, hxs, hdxs⟩ := uT hS (fun u hu => hm u (by simp [hu])) h2 (fun j t v h1 h2 => hv (j + 1) t v (by simpa using h1) (by simpa using h2))
  exact ⟨x :: xs, ⟨v, vs, rfl, hx, hxs⟩, hdx, hdxs⟩
 | [], [], _ :: _, _, _, h, _ | [], _ :: _, _, _, _, h, _ | _ :: _, [], _, _, _, h, _ | _ :: _, _ :: _, [], _, _, h, _ => by simp [DataW.TrodAll] at h
theorem oz (hl : laidOutB P = true) {W W' : World} {sp : Nat → Bool} : ∀ {ts : List TypeId} {vs : List Value} {ds : List (DataW H)} {ps : List MemPlace}, (∀ t ∈ ts, P.readableRec t = true ∧ t < P.types.size) →
  DataW.TrodAll enc P W 0 (fun _ => true) true ts vs ds ps → (∀ x ∈ ps, W.sameAt W' x) → (∀ x ∈ ps, sp x.block = true) → DataW.TrodAll enc P W' 0 sp true ts vs ds ps
 | [], [], [], _, _, h, _, _ => h
 | t :: ts, v :: vs, d :: ds, _, hr, ⟨p, q, h1, h2, e⟩, hs, hsp => by
  subst e
  exact ⟨p, q, WideElems.Trod_stays hl (hr t (by simp)).1 (hr t (by simp)).2 h1 (fun x hx => hs x (by simp [hx])) (fun x hx => hsp x (by simp [hx])),
   oz hl (fun u hu => hr u (by simp [hu])) h2 (fun x hx => hs x (by simp [hx])) (fun x hx => hsp x (by simp [hx])), rfl⟩
 | [], [], _ :: _, _, _, h, _, _ | [], _ :: _, _, _, _, h, _, _ | _ :: _, [], _, _, _, h, _, _ | _ :: _, _ :: _, [], _, _, h, _, _ => by simp [DataW.TrodAll] at h
theorem qV {W : World} {sp : Nat → Bool} : ∀ {ts : List TypeId} {vs : List Value} {ds : List (DataW H)} {ps : List MemPlace}, DataW.TrodAll enc P W nT sp held ts vs ds ps → ds.length = ts.length
 | [], [], [], _, _ => rfl
 | _ :: ts, _ :: vs, _ :: ds, _, ⟨_, _, _, h2, _⟩ => by simp [qV h2]
 | [], [], _ :: _, _, h | [], _ :: _, _, _, h | _ :: _, [], _, _, h | _ :: _, _ :: _, [], _, h => by simp [DataW.TrodAll] at h
theorem B9 {k : FuncId} {f : Func} {s : ChangeSpec} {S : List TypeId} {tb : TypeId} {W : World} {base' : Nat} {args : Array Value} {ds gs : List (DataW H)} {before : List MemPlace} (hl : laidOutB P = true)
  (hr : ∀ t ∈ f.params.toList, P.readableRec t = true ∧ t < P.types.size) (hS : zn P S = true) (hp : ∀ t ∈ f.params.toList, t ∈ S) (hres : f.resultTypes = #[tb]) (htb : P.underlying tb = some .bool) (hvars : s.vars = [])
  (hfn : ∀ ds : List (DataW H), ds.length = f.params.toList.length → s.fn H ds = { results := [.lit (.bool true)], args := ds })
  (call : ∀ xs, rl P f.params.toList xs → ai P k xs (· = .bool true))
  (hval : ∀ (j : Nat) t v, f.params[j]? = some t → args[j]? = some v → Value.okWide P W .any base' t v)
  (hW : DataW.Whole enc P f.params.toList s.vars false W args.toList ds gs before) (hlay : g8 W (G.ofTop (ed W))) :
  Calls P k args W fun e W' => ∃ v, e = .returned v ∧ s.post enc P f false true false false W args v W' := by
 have hW' := hW
 obtain ⟨p, q, hA, hV, rfl, hfz, hnd⟩ := hW
 rw [hvars] at hV
 obtain ⟨rfl, rfl⟩ := trodVars_none hV
 have hval0 : ∀ (j : Nat) t v, f.params.toList[j]? = some t → args.toList[j]? = some v → Value.okWide P W .any base' t v := fun j t v h1 h2 => hval j t v (by simpa using h1) (by simpa using h2)
 obtain ⟨n, hn⟩ : ∃ ps : List MemPlace, ps = p := ⟨_, rfl⟩
 obtain ⟨xs, hxs, hdx⟩ := uT hS hp hA hval0
 have hc := (call xs hdx).2 W (ed W) args.toList (fun b hb => mP W b hb) hlay hxs
 rw [Array.toArray_toList] at hc
 refine hc.mono ?_
 rintro e W' ⟨v, r, top', rfl, hreq, hr', hpf⟩
 have hreq' : r = .bool true := hreq
 subst hreq'
 obtain rfl : v = .bool true := hr'
 have hlt : ∀ x ∈ p, x.block < W.heap.size := fun x hx => hW'.lt x (by simp [hx])
 have hstay : ∀ sp : Nat → Bool, (∀ x ∈ p, sp x.block = true) → DataW.TrodAll enc P W' 0 sp true f.params.toList args.toList ds p := fun sp hsp =>
  oz hl hr hA (fun x hx => hpf.below.same (hlt x hx)) hsp
 have hfd : s.fn H (ds ++ []) = { results := [.lit (.bool true)], args := ds } := by
  rw [List.append_nil]; exact hfn ds (qV hA)
 refine ⟨_, rfl, ds, [], p ++ [], [], p, [], hW', ?_, ?_, ?_, ?_, fun h => by cases h⟩
 ·
  rw [hfd, hres]
  exact trodAll_mk1 ⟨1, by simp [DataW.trod, Value.cells, htb]⟩
 ·
  rw [hfd]
  exact hstay _ fun x hx => by simpa using hlt x hx
 ·
  rw [hfd, hvars]
  exact rfl
 · exact hpf.below.frame _
end
end Go.Pv
namespace Go.Pv
abbrev W (n : Int) : Int := IntKind.wrap .i64 n
theorem gZ {n : Int} (h : -9223372036854775808 ≤ n ∧ n < 9223372036854775808) : W n = n := by
 have e : (2 : Int) ^ IntKind.i64.bits = 18446744073709551616 := by decide
 have e' : (2 : Int) ^ (IntKind.i64.bits - 1) = 9223372036854775808 := by decide
 simp only [W, IntKind.wrap, e, e', IntKind.signed, Bool.true_and, decide_eq_true_eq]
 split <;> omega
def Bd (n : Int) : Prop := -1073741824 ≤ n ∧ n ≤ 1073741824
theorem AA {a b : Int} (ha : Bd a) (hb : Bd b) : W (a - b) = a - b := gZ (by unfold Bd at *; omega)
theorem Gb {a b : Int} (ha : Bd a) (hb : Bd b) : W (a + b) = a + b := gZ (by unfold Bd at *; omega)
theorem Dd {a : Int} (ha : Bd a) : W (0 - a) = - a := by rw [gZ] <;> unfold Bd at * <;> omega
theorem GX {a b A B : Int} (ha : -A ≤ a ∧ a ≤ A) (hb : -B ≤ b ∧ b ≤ B) : -(A * B) ≤ a * b ∧ a * b ≤ A * B := by
 have h1 : a.natAbs ≤ A.toNat := by omega
 have h2 : b.natAbs ≤ B.toNat := by omega
 have h3 : (a * b).natAbs ≤ A.toNat * B.toNat := by rw [Int.natAbs_mul]; exact Nat.mul_le_mul h1 h2
 have hA : (A.toNat : Int) = A := by omega
 have hB : (B.toNat : Int) = B := by omega
 have h4 : ((a * b).natAbs : Int) ≤ A * B := by
  have : (((a * b).natAbs : Nat) : Int) ≤ ((A.toNat * B.toNat : Nat) : Int) := by exact_mod_cast h3
  rw [Int.natCast_mul, hA, hB] at this
  exact this
 omega
theorem Cr {a b : Int} (ha : -2147483648 ≤ a ∧ a ≤ 2147483648) (hb : -2147483648 ≤ b ∧ b ≤ 2147483648) : -4611686018427387904 ≤ a * b ∧ a * b ≤ 4611686018427387904 := by
 have := GX ha hb
 omega
end Go.Pv
namespace Go.Pv
set_option linter.unusedSimpArgs false
set_option linter.unusedSectionVars false
set_option linter.unusedVariables false
section
variable {P : Program} [dI P]
theorem Fr {n : Nat} {t : TypeId} {k : IntKind} {i : TI} {cs : List AV} (hi : ti P t = some i) (hk : i.k = .int k) (h : kB P n t cs) : ∃ z, cs = [.int k z] ∧ (Lit.int k z).wf = true := by
 cases n with
 | zero => exact h.elim
 | succ n => simpa only [kB, hi, hk] using h
theorem we {t : TypeId} {ts : List TypeId} {xs : List AV} (h : rl P (t :: ts) xs) : ∃ x r, xs = x :: r ∧ BE P t x ∧ rl P ts r := by
 cases xs with
 | nil => exact h.elim
 | cons x r => exact ⟨x, r, rfl, h.1, h.2⟩
theorem HI {xs : List AV} (h : rl P [] xs) : xs = [] := by
 cases xs with
 | nil => rfl
 | cons x r => exact h.elim
def Ej (P : Program) (S ts : List TypeId) : Bool := ts.all fun t => P.readableRec t && Nat.blt t P.types.size && S.contains t
theorem EF {H : Type} {enc : TypeId × Value → H} {k : FuncId} {f : Func} {s : ChangeSpec} {W : World} {base' : Nat} {args : Array Value} {ds gs : List (DataW H)} {before : List MemPlace} (S : List TypeId) (ts : List TypeId) (tb : TypeId)
  (hts : f.params.toList = ts) (hl : laidOutB P = true) (hr : Ej P S ts = true) (hS : zn P S = true) (hres : f.resultTypes = #[tb]) (htb : P.underlying tb = some .bool) (hvars : s.vars = [])
  (hfn : ∀ ds : List (DataW H), ds.length = ts.length → s.fn H ds = { results := [.lit (.bool true)], args := ds })
  (call : ∀ xs, rl P ts xs → ai P k xs (· = .bool true))
  (hval : ∀ (j : Nat) t v, f.params[j]? = some t → args[j]? = some v → Value.okWide P W .any base' t v)
  (hW : DataW.Whole enc P f.params.toList s.vars false W args.toList ds gs before) (hlay : g8 W (G.ofTop (ed W))) :
  Calls P k args W fun e W' => ∃ v, e = .returned v ∧ s.post enc P f false true false false W args v W' := by
 unfold Ej at hr
 rw [List.all_eq_true] at hr
 refine B9 (S := S) (tb := tb) hl ?_ hS ?_ hres htb hvars ?_ ?_ hval hW hlay
 ·
  intro t ht
  rw [hts] at ht
  have := hr t ht
  simp only [Bool.and_eq_true] at this
  exact ⟨this.1.1, by simpa using this.1.2⟩
 ·
  intro t ht
  rw [hts] at ht
  have := hr t ht
  simp only [Bool.and_eq_true] at this
  have h2 := this.2
  rw [List.contains_eq_mem] at h2
  simpa using h2
 · rw [hts]; exact hfn
 · rw [hts]; exact call
end
end Go.Pv
namespace Go.Pv
theorem ei {k : IntKind} {a b : Int} (h : a = b) : AV.int k a = AV.int k b := by rw [h]
theorem eh {k : IntKind} {a b : Int} (h : a = b) : some (AV.int k a) = some (AV.int k b) := by rw [h]
theorem eb {a b : Bool} (h : a = b) : AV.bool a = AV.bool b := by rw [h]
theorem oh {a b : Bool} (h : a = b) : some (AV.bool a) = some (AV.bool b) := by rw [h]
theorem bg {i n : Nat} (h : i < n) (hn : n ≤ maxLen) : IntKind.wrap .i64 ((i : Int) + 1) = ((i + 1 : Nat) : Int) := by
 have := gZ (n := (i : Int) + 1) (by unfold maxLen at hn; omega)
 rw [W] at this; rw [this]; rfl
end Go.Pv
