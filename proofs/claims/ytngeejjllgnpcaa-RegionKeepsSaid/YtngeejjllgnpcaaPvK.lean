/- Rules for the walk of a region that draws its order; reading a row; slicing. -/
import Derived.Test.YtngeejjllgnpcaaPvI
namespace Go.Pv
set_option linter.unusedSimpArgs false
set_option linter.unusedSectionVars false
set_option linter.unusedVariables false

section
variable {P : Program} [Tab P] {N n0 : Nat} {Q : Post} {ops : Array Oper} {rest : List Oper} {σ : List (Nat × AV)} {H A : List (Nat × Nat × AV)} {O : List (Nat × Kind)} {n i : Nat}
  {d : Nat} {op : Op} {ty : TypeId} {pos : String} {af : Array Edge} {gd : Option (Nat × Bool)}

def DP (P : Program) [Tab P] (N n0 : Nat) (ops : Array Oper) (H : List (Nat × Nat × AV)) (O : List (Nat × Kind)) (i : Nat) (l : List Oper) (σ : List (Nat × AV)) (n : Nat) (A : List (Nat × Nat × AV))
    (K : St → Prop) : Prop := ∃ σ' n' A' al, Pre P N n0 ops H O i l σ n A σ' n' A' al ∧ K ⟨σ', A', O, n'⟩

theorem awp_dp {id m : Nat} {l : List Oper} (hmix : P.follows .mixedOrders = true) (hm : Nat.ble m l.length = true)
    (h1 : chkDep l.toArray m = true) (h2 : chkPost l.toArray m = true) (h3 : chkBack l.toArray = true) (h4 : chkG N l.toArray m = true) (hok : okL l.toArray (l.take m) = true) (hH : idsLt n H = true)
    (k : DP P N n0 l.toArray H O 0 (l.take m) σ n H (aops P N n0 l.toArray (l.drop m) Q)) : awp P N n0 (.region id l.toArray true) Q ⟨σ, H, O, n⟩ := by
  obtain ⟨σ', n', A', al, hp, hk⟩ := k
  exact awp_draw hmix hm h1 h2 h3 h4 hok hH hp hk

theorem dn {K : St → Prop} (h : K ⟨σ, A, O, n⟩) : DP P N n0 ops H O i [] σ n A K := ⟨σ, n, A, [], .nil, h⟩

/-- A value. -/
theorem dv {K : St → Prop} {v : AV} (hd : Nat.blt d N = true) (hg : wantedS ops σ gd = some true) (hv : ∀ m, nfO (opv P ⟨restr ⟨some d, op, ty, pos, af, gd⟩ σ, H, O, m⟩ op) = some v)
    (k : DP P N n0 ops H O (i + 1) rest ((d, v) :: σ) n A K) : DP P N n0 ops H O i (⟨some d, op, ty, pos, af, gd⟩ :: rest) σ n A K := by
  obtain ⟨σ', n', A', al, hp, hk⟩ := k
  exact ⟨σ', n', A', al, .go rfl hd hg (fun m => step_val (by have := hv m; rw [nfO_eq] at this; exact this)) hp, hk⟩

/-- Not wanted. -/
theorem dno {K : St → Prop} (hd : Nat.blt d N = true) (hg : wantedS ops σ gd = some false) (k : DP P N n0 ops H O (i + 1) rest ((d, .tup []) :: σ) n A K) :
    DP P N n0 ops H O i (⟨some d, op, ty, pos, af, gd⟩ :: rest) σ n A K := by
  obtain ⟨σ', n', A', al, hp, hk⟩ := k
  exact ⟨σ', n', A', al, .no rfl hd hg hp, hk⟩

theorem lk_dup {e : Nat} {v : AV} (h : lk σ e = v) (t : Nat) : lk ((e, v) :: σ) t = lk σ t := by
  simp only [lk]
  by_cases hb : Nat.beq e t = true
  · have : e = t := by simpa using hb
    subst this
    rw [if_pos hb, h]
  · rw [if_neg hb]

/-- The guard's bool is not known. -/
theorem ds {K : St → Prop} {j e : Nat} {want b : Bool} (hj : gslot ops j = some e) (hb : lk σ e = .bool b)
    (yes : b = true → DP P N n0 ops H O i (⟨some d, op, ty, pos, af, some (j, want)⟩ :: rest) ((e, .bool true) :: σ) n A K)
    (no : b = false → DP P N n0 ops H O i (⟨some d, op, ty, pos, af, some (j, want)⟩ :: rest) ((e, .bool false) :: σ) n A K) :
    DP P N n0 ops H O i (⟨some d, op, ty, pos, af, some (j, want)⟩ :: rest) σ n A K := by
  cases b with
  | true =>
    obtain ⟨σ', n', A', al, hp, hk⟩ := yes rfl
    exact ⟨σ', n', A', al, .eqv (lk_dup hb) hp, hk⟩
  | false =>
    obtain ⟨σ', n', A', al, hp, hk⟩ := no rfl
    exact ⟨σ', n', A', al, .eqv (lk_dup hb) hp, hk⟩

/-- A call of a function that answers one thing. -/
theorem dc {K : St → Prop} {fop : Operand} {args : Array Operand} {ats : Array TypeId} {f : FuncId} {r : AV} (hd : Nat.blt d N = true) (hg : wantedS ops σ gd = some true) (hf : ev σ fop = .fn f [])
    (hr : ev (restr ⟨some d, .call ⟨.value fop, args, ats⟩, ty, pos, af, gd⟩ σ) fop = .fn f [])
    (hc : ∀ m, limL 0 (args.toList.map (evs ⟨restr ⟨some d, .call ⟨.value fop, args, ats⟩, ty, pos, af, gd⟩ σ, H, O, m⟩)) = true)
    (call : ∀ m, PCall P f (args.toList.map (evs ⟨restr ⟨some d, .call ⟨.value fop, args, ats⟩, ty, pos, af, gd⟩ σ, H, O, m⟩)) (· = r))
    (k : DP P N n0 ops H O (i + 1) rest ((d, r) :: σ) n A K) : DP P N n0 ops H O i (⟨some d, .call ⟨.value fop, args, ats⟩, ty, pos, af, gd⟩ :: rest) σ n A K := by
  obtain ⟨σ', n', A', al, hp, hk⟩ := k
  exact ⟨σ', n', A', al, .go rfl hd hg (fun m => step_call (caps := []) rfl hr (by rw [List.append_nil]; exact hc m) (by rw [List.append_nil]; exact call m)) hp, hk⟩

/-- A new variable. -/
theorem da {K : St → Prop} {t : TypeId} {j : TI} (hd : Nat.blt d N = true) (hg : wantedS ops σ gd = some true) (ht : ti P t = some j)
    (k : DP P N n0 ops H O (i + 1) rest ((d, .ptr n 0) :: σ) (n + 1) (allocH n 0 j.zero A) K) : DP P N n0 ops H O i (⟨some d, .alloc t, ty, pos, af, gd⟩ :: rest) σ n A K := by
  obtain ⟨σ', n', A', al, hp, hk⟩ := k
  exact ⟨σ', n', A', _, .al rfl hd hg rfl ht hp, hk⟩

/-! ### rows -/

theorem index_run {w : World} {g : G} {t e : TypeId} {j je : TI} {k : IntKind} {ix : Int} {xs : List (List AV)} {r : List AV} {u v : Value} (ht : ti P t = some j) (hk : j.k = .slice e) (he : ti P e = some je)
    (hx : Rep w g (.sl xs) u) (hv : Rep w g (.int k ix) v) (h0 : 0 ≤ ix) (hr : xs[ix.toNat]? = some r) (hw : Wide je.size xs) :
    ∃ q, (Instr.indexAt t u v).run P w = .ok q w ∧ Rep w g (.rd r) q := by
  obtain ⟨_, _, _, h1⟩ := ti_tells ht
  obtain ⟨_, _, _, h2⟩ := ti_tells he
  have hd := h1.desc_slice hk
  subst hd
  obtain ⟨a, cap, rfl, hc, hn, had⟩ := hx
  obtain rfl : v = _ := hv
  have hlt : ix.toNat < xs.length := (List.getElem?_eq_some_iff.1 hr).1
  cases a with
  | none => rw [hn rfl] at hlt; simp at hlt
  | some ad =>
    obtain ⟨hs, hrows⟩ := had ad rfl
    obtain ⟨b, o, sp⟩ := ad
    simp only at hs hrows
    have hs' := hs (by intro e; rw [e] at hlt; simp at hlt)
    subst hs'
    have hcond : 0 ≤ ix ∧ ix < (xs.length : Int) := ⟨h0, by omega⟩
    refine ⟨.pointer (some ⟨b, o + ix.toNat * je.size, none⟩), ?_, b, _, rfl, hrows.get hw hr⟩
    have hpe : P.elem t = e := by simp [Program.elem, h1.und]
    rw [run_indexAt_slice w t ⟨b, o, none⟩ xs.length cap k ix (by rw [h1.und, hpe]), if_pos hcond, hpe]
    simp [h2.run_size, addr_add]

/-- An element's place. -/
theorem ri {t e : TypeId} {x ix : Operand} {j je : TI} {k : IntKind} {iv : Int} {xs : List (List AV)} {r : List AV} (hd : Nat.blt d N = true) (ht : ti P t = some j) (hk : j.k = .slice e) (he : ti P e = some je)
    (hx : evs ⟨σ, H, O, n⟩ x = .sl xs) (hi : ev σ ix = .int k iv) (h0 : 0 ≤ iv) (hr : xs[iv.toNat]? = some r) (hw : Wide je.size xs)
    (kk : aops P N n0 ops rest Q ⟨(d, .rd r) :: σ, H, O, n⟩) : aops P N n0 ops (⟨some d, .indexAddr t x ix, ty, pos, af, none⟩ :: rest) Q ⟨σ, H, O, n⟩ :=
  aops_value rfl (fun w0 g0 a w g hin => by
    have h1 := rep_evs hin x
    rw [hx] at h1
    have h2 := rep_ev hin.slots ix
    rw [show ev (St.mk σ H O n).σ ix = _ from hi] at h2
    obtain ⟨q, hq, hrq⟩ := index_run ht hk he h1 h2 h0 hr hw
    exact ⟨q, w, g, run_value hq, hin.put (d := some d) hrq hd⟩) kk

theorem di {K : St → Prop} {t e : TypeId} {x ix : Operand} {j je : TI} {k : IntKind} {iv : Int} {xs : List (List AV)} {r : List AV} (hd : Nat.blt d N = true) (hg : wantedS ops σ gd = some true)
    (ht : ti P t = some j) (hk : j.k = .slice e) (he : ti P e = some je)
    (hx : ∀ m, evs ⟨restr ⟨some d, .indexAddr t x ix, ty, pos, af, gd⟩ σ, H, O, m⟩ x = .sl xs) (hi : ev (restr ⟨some d, .indexAddr t x ix, ty, pos, af, gd⟩ σ) ix = .int k iv)
    (h0 : 0 ≤ iv) (hr : xs[iv.toNat]? = some r) (hw : Wide je.size xs)
    (kk : DP P N n0 ops H O (i + 1) rest ((d, .rd r) :: σ) n A K) : DP P N n0 ops H O i (⟨some d, .indexAddr t x ix, ty, pos, af, gd⟩ :: rest) σ n A K := by
  obtain ⟨σ', n', A', al, hp, hk'⟩ := kk
  refine ⟨σ', n', A', al, .go rfl hd hg (fun m => step_value fun w0 g0 a w g hin => ?_) hp, hk'⟩
  have h1 := rep_evs hin x
  rw [hx m] at h1
  have h2 := rep_ev hin.slots ix
  rw [hi] at h2
  obtain ⟨q, hq, hrq⟩ := index_run ht hk he h1 h2 h0 hr hw
  exact ⟨q, run_value hq, hrq⟩

end

/-! ### ends -/

theorem rr {P : Program} [Tab P] {rs : List ResultVar} {K : AV → Prop} {s : St} {r : AV} (h : nfO (resv P s rs) = some r) (hl : r.lim 0 = true) (hk : K r) : retPost P rs K .ret s :=
  ⟨r, by rw [nfO_eq] at h; exact h, hl, hk⟩

theorem rr' {P : Program} [Tab P] {rs : List ResultVar} {K : AV → Prop} {s : St} {r : AV} (h : nfO (resv P s rs) = some r) (hl : r.lim 0 = true) (hk : K r) : retPost P rs K .normal s :=
  ⟨r, by rw [nfO_eq] at h; exact h, hl, hk⟩

end Go.Pv
