/- The texts of a proof, put together by a program of this session's; names are short for the size's sake. -/
import Derived.Laws.Externs
import Derived.Lib.Bytealg
import Derived.JoinedCond
import Derived.Test.YtbkomicjhfldmaaGreatDoorM4
namespace Go.Pv
set_option linter.unusedSectionVars false
set_option linter.unusedVariables false
set_option linter.unusedSimpArgs false
abbrev aY := List UInt8
def sB (l : aY) : ByteArray := ⟨l.toArray⟩
abbrev Er := Option Int
def vW : Nat := 68719476736
section
variable {α β ε τ : Type}
def gi (l : List α) (i : Int) : Option α := if 0 ≤ i then l[i.toNat]? else none
def kC (l : List α) (lo hi : Int) : Option (List α) := if 0 ≤ lo ∧ lo ≤ hi ∧ hi ≤ l.length then some ((l.take hi.toNat).drop lo.toNat) else none
def ap (a b : List α) : Option (List α) := if a.length + b.length ≤ vW then some (a ++ b) else none
def HO (c : UInt8) : List AV := [.int .u8 (c.toNat : Int)]
def cI (k : IntKind) (n : Int) : List AV := [.int k n]
def cS (s : aY) : List AV := [.str (sB s)]
abbrev JB (k : IntKind) (a b : Int) : Int := a.fdiv (2 ^ min b.toNat k.bits)
def Hy (k : IntKind) (a b : Int) : Option Int := if b = 0 then none else some (a.tmod b)
def Gi (k : IntKind) (a b : Int) : Option Int := if b < 0 then none else some (JB k a b)
def gd (p : Prop) [Decidable p] : Option Unit := if p then some () else none
def kS (o : ε ⊕ τ) (f : ε → Option τ) : Option τ := match o with
 | .inl e => f e
 | .inr t => some t
def bm (body : ε → Option (ε ⊕ τ)) : Nat → ε → Option τ
 | 0, _ => none
 | n + 1, s => (body s).bind fun o => match o with
  | .inl s' => bm body n s'
  | .inr e => some e
theorem bi {o : Option α} {f : α → Option β} {r : β} (h : o.bind f = some r) : ∃ v, o = some v ∧ f v = some r := by
 cases o with
 | none => cases h
 | some v => exact ⟨v, rfl, h⟩
theorem bs {e : α} {f : α → Option β} {r : β} (h : (some e).bind f = some r) : ∃ x, e = x ∧ f x = some r := ⟨e, rfl, h⟩
theorem cT {b : Bool} {x y : Option α} {r : α} (hb : b = true) (h : (bif b then x else y) = some r) : x = some r := by subst hb; exact h
theorem cF {b : Bool} {x y : Option α} {r : α} (hb : b = false) (h : (bif b then x else y) = some r) : y = some r := by subst hb; exact h
theorem n8 {t r : τ} {f : ε → Option τ} (h : kS (.inr t) f = some r) : t = r := Ke h
theorem ry {e : ε} {r : τ} {f : ε → Option τ} (h : kS (.inl e) f = some r) : f e = some r := h
theorem iF {l : List α} {i : Int} {x : α} (h : gi l i = some x) : 0 ≤ i := by
 unfold gi at h; split at h
 · assumption
 · cases h
theorem Je {l : List α} {i : Int} {x : α} (h : gi l i = some x) : l[i.toNat]? = some x := by
 unfold gi at h; split at h
 · exact h
 · cases h
theorem kG (c : α → List AV) {l : List α} {i : Int} {x : α} (h : gi l i = some x) : (l.map c)[i.toNat]? = some (c x) := by
 rw [List.getElem?_map, Je h]; rfl
theorem JD {l : List α} {i : Int} {x : α} (h : gi l i = some x) : i < l.length := by
 have := (List.getElem?_eq_some_iff.1 (Je h)).1
 have := iF h; omega
theorem JQ {a b y : List α} (h : ap a b = some y) : a.length + b.length ≤ vW ∧ a ++ b = y := by
 unfold ap at h; split at h
 · exact ⟨by assumption, Ke h⟩
 · cases h
theorem wR (c : α → List AV) {a b y : List α} (h : ap a b = some y) : a.map c ++ b.map c = y.map c := by rw [← List.map_append, (JQ h).2]
theorem wA {a b y : List α} {k : Nat} (c : α → List AV) (hk : Nat.ble k 2048 = true) (h : ap a b = some y) : ((a.map c).length + (b.map c).length) * k ≤ 140737488355328 := by
 have h1 := (JQ h).1
 simp only [Nat.ble_eq] at hk
 rw [List.length_map, List.length_map]
 exact Nat.le_trans (Nat.mul_le_mul h1 hk) (by decide)
theorem wM {c : α → List AV} {z : Nat} (h : ∀ x, (c x).length = z) (l : List α) : eB z (l.map c) := fun r hr => by
 obtain ⟨a, _, rfl⟩ := List.mem_map.1 hr; exact h a
theorem oM {c : α → List AV} (h : ∀ x, (c x).all AV.one = true) (l : List α) : vF (l.map c) := fun r hr => by
 obtain ⟨a, _, rfl⟩ := List.mem_map.1 hr; exact h a
theorem Fz {c : α → List AV} (h : ∀ x, dT 0 (c x) = true) : ∀ l : List α, fo 0 (l.map c) = true
 | [] => rfl
 | x :: l => by simp only [List.map_cons, fo, h x, Fz h l, Bool.and_self]
theorem lM (c : α → List AV) (l : List α) : AV.int .i64 (((l.map c).length : Nat) : Int) = .int .i64 (l.length : Int) := by rw [List.length_map]
theorem HR {l y : List α} {lo hi : Int} (h : kC l lo hi = some y) : 0 ≤ lo ∧ lo ≤ hi ∧ hi ≤ l.length ∧ (l.take hi.toNat).drop lo.toNat = y := by
 unfold kC at h; split at h
 · rename_i hc; exact ⟨hc.1, hc.2.1, hc.2.2, Ke h⟩
 · cases h
theorem Ka (c : α → List AV) {l y : List α} {lo : Int} (h : kC l lo l.length = some y) : (l.map c).drop lo.toNat = y.map c := by
 rw [← (HR h).2.2.2, List.map_drop]; simp
theorem J7 (c : α → List AV) {l y : List α} {lo : Int} (h : kC l lo l.length = some y) : lo.toNat ≤ (l.map c).length := by
 rw [List.length_map]; have := HR h; omega
theorem JT (c : α → List AV) {l y : List α} {lo hi : Int} (h : kC l lo hi = some y) : ((l.map c).take hi.toNat).drop lo.toNat = y.map c := by
 rw [← (HR h).2.2.2, List.map_drop, List.map_take]
end
theorem hC (l : aY) : (sB l).toList = l := by
 rw [ByteArray.toList_eq]; rfl
theorem jH (a b : aY) : AV.bool ((sB a).toList == (sB b).toList) = .bool (a == b) := by rw [hC, hC]
theorem G7 (a b : aY) : AV.bool (!((sB a).toList == (sB b).toList)) = .bool (!(a == b)) := by rw [hC, hC]
theorem JR (a b : aY) : AV.bool (Op.bytesLess (sB a).toList (sB b).toList) = .bool (Op.bytesLess a b) := by rw [hC, hC]
theorem J3 (a b : aY) : AV.bool (!(Op.bytesLess (sB a).toList (sB b).toList || (sB a).toList == (sB b).toList)) = .bool (!(Op.bytesLess a b || a == b)) := by rw [hC, hC]
theorem GC (b : aY) (l h : Nat) : (sB b).extract l h = sB ((b.take h).drop l) := by
 apply ByteArray.ext
 simp [sB, ByteArray.data_extract, List.extract_toArray, List.extract_eq_take_drop, List.drop_take]
section
variable {P : Program} [dI P] {N n0 : Nat} {Q : bY} {ops : Array Oper} {rest : List Oper} {σ : List (Nat × AV)} {H H2 A : List (Nat × Nat × AV)} {O O2 : List (Nat × Kind)} {n n2 i : Nat}
 {d : Nat} {op : Op} {ty : TypeId} {pos : String} {af : Array Edge} {gd : Option (Nat × Bool)} {s : St} {c : Code}
theorem rt {v v' : AV} (h : v = v') (k : aM P N n0 ops rest Q ⟨(d, v') :: σ, H, O, n⟩) : aM P N n0 ops rest Q ⟨(d, v) :: σ, H, O, n⟩ := h ▸ k
theorem Ew {k : IntKind} {a b : Int} (h : a = b) : AV.int k a = .int k b := by rw [h]
theorem xh {a b : Bool} (h : a = b) : AV.bool a = .bool b := by rw [h]
theorem rk {i : Nat} {K K' : Kind} (h : K = K') (k : aM P N n0 ops rest Q ⟨σ, H, (i, K') :: O, n⟩) : aM P N n0 ops rest Q ⟨σ, H, (i, K) :: O, n⟩ := h ▸ k
def BX (s : St) (d : Int) : Option Operand → Int → Prop
 | none, v => v = d
 | some x, v => ∃ k, ev s.σ x = .int k v
theorem ns {d : Nat} {lo : Option Operand} {v : Int} (h : BX s d lo v) (h0 : 0 ≤ v) : Fm s d lo v.toNat := by
 cases lo with
 | none => simp only [BX] at h; subst h; simp [Fm]
 | some x => obtain ⟨k, h⟩ := h; exact ⟨k, by rw [h, Int.toNat_of_nonneg h0]⟩
theorem dw {t : TypeId} {x ix : Operand} {b : aY} {k : IntKind} {iv : Int} {j : TI} {e : UInt8} (ht : ti P t = some j) (hk : j.k = .str) (hx : gj s x = .str (sB b)) (hi : ev s.σ ix = .int k iv) (h : gi b iv = some e) :
  eV P N n0 s (.index t x ix) (.int .u8 (e.toNat : Int)) := by
 have h1 := JD h
 refine DM (DK ht hk hx hi (iF h) h1) ?_
 have := Je h
 show AV.int .u8 (((((sB b).data.toList)[iv.toNat]?).map fun c => (c.toNat : Int)).getD 0) = _
 rw [show (sB b).data.toList = b from rfl, this]; rfl
theorem gR {t : TypeId} {x : Operand} {lo hi : Option Operand} {b y : aY} {l h : Int} {j : TI} (ht : ti P t = some j) (hk : j.k = .str) (hx : gj s x = .str (sB b)) (hlo : BX s 0 lo l) (hhi : BX s b.length hi h) (hg : kC b l h = some y) :
  eV P N n0 s (.slice t x lo hi none) (.str (sB y)) := by
 obtain ⟨h0, h1, h2, h3⟩ := HR hg
 have := B1 (N := N) (n0 := n0) ht hk hx (ns hlo h0) (ns (d := b.length) hhi (by omega)) (by omega) (show h.toNat ≤ (sB b).size by show h.toNat ≤ b.length; omega)
 rw [GC, h3] at this; exact this
theorem nc {t e : TypeId} {x : Operand} {lo hi : Option Operand} {α : Type} {c : α → List AV} {b y : List α} {l h : Int} {j je : TI} (ht : ti P t = some j) (hk : j.k = .slice e) (he : ti P e = some je) (hx : gj s x = .sl (b.map c)) (hlo : BX s 0 lo l) (hhi : BX s b.length hi h) (hg : kC b l h = some y) (hw : ∀ x, (c x).length = je.size) :
  eV P N n0 s (.slice t x lo hi none) (.sl (y.map c)) := by
 obtain ⟨h0, h1, h2, h3⟩ := HR hg
 have := zQ (N := N) (n0 := n0) (l := l.toNat) (h := h.toNat) ht hk he hx (ns hlo h0) (by rw [List.length_map]; exact ns hhi (by omega)) (by omega) (by rw [List.length_map]; omega) (wM hw b)
 rw [JT c hg] at this; exact this
section
variable {t t2 : TypeId} {x y : Operand} {k : IntKind} {a b z : Int}
theorem HH (hx : gj s x = .int k a) (hy : gj s y = .int k b) (h : Hy k a b = some z) : eV P N n0 s (.binOp .rem t x y t2) (.int k z) := by
 intro o ho w0 g0 u w g hi
 refine iV hi ?_
 rw [ho]; unfold Hy at h; split at h
 · cases h
 · rename_i h0; obtain rfl := Ke h; simp [oF, hx, hy, rB, v7, B8, h0]
theorem Hp {k' : IntKind} (hx : gj s x = .int k a) (hy : gj s y = .int k' b) (h : Gi k a b = some z) : eV P N n0 s (.binOp .shr t x y t2) (.int k z) := by
 intro o ho w0 g0 u w g hi
 refine iV hi ?_
 rw [ho]; unfold Gi at h; split at h
 · cases h
 · rename_i h0; obtain rfl := Ke h; simp [oF, hx, hy, rB, v7, HS, h0]
end
def nS (t : TypeId) : Er → AV
 | none => .nilI
 | some c => .iface t (.int .i64 c)
theorem vO {w : World} {g : G} {t : TypeId} {e : Er} {v : Value} : bU w g (.err t e) v ↔ bU w g (nS t e) v := by
 cases e with
 | none => exact Iff.rfl
 | some c =>
  constructor
  · intro h; exact ⟨_, h, rfl⟩
  · rintro ⟨y, h, rfl⟩; exact h
theorem zu {s : St} {k : Nat} {u : TypeId} {e : Er} {op : Op} {v : AV} (hs : lk s.σ k = .err u e) (h : eV P N n0 ⟨(k, nS u e) :: s.σ, s.H, s.O, s.n⟩ op v) : eV P N n0 s op v := by
 intro o ho w0 g0 a w g hi
 refine h o ho w0 g0 a w g (hi.putS (vO.1 ?_))
 have := hi.slots k; rw [hs] at this; exact this
theorem sH {s : St} {k : Nat} {u : TypeId} {e : Er} : gj ⟨(k, nS u e) :: s.σ, s.H, s.O, s.n⟩ (.tmp k) = nS u e := by cases e <;> simp [gj, ev, lk, snap, nS]
theorem nN {s : St} {k : Nat} {t u t2 : TypeId} {e : Er} {i : TI} {b : Bool} (ht : ti P t = some i) (hk : i.k = .iface b) (hx : lk s.σ k = .err u e) : eV P N n0 s (.binOp .eql t (.tmp k) (.const .nilIface) t2) (.bool e.isNone) := zu hx (by
 intro o ho w0 g0 a w g hi
 refine iV hi ?_
 rw [ho]
 have hx' := sH (s := s) (k := k) (u := u) (e := e)
 have hy : gj ⟨(k, nS u e) :: s.σ, s.H, s.O, s.n⟩ (.const .nilIface) = .nilI := rfl
 cases e <;> (simp only [oF, hx', hy]; simp [nS, rB, eqv, ht, hk, FT, xf]))
theorem jo {s : St} {k : Nat} {t u t2 : TypeId} {e : Er} {i : TI} {b : Bool} (ht : ti P t = some i) (hk : i.k = .iface b) (hx : lk s.σ k = .err u e) : eV P N n0 s (.binOp .neq t (.tmp k) (.const .nilIface) t2) (.bool e.isSome) := zu hx (by
 intro o ho w0 g0 a w g hi
 refine iV hi ?_
 rw [ho]
 have hx' := sH (s := s) (k := k) (u := u) (e := e)
 have hy : gj ⟨(k, nS u e) :: s.σ, s.H, s.O, s.n⟩ (.const .nilIface) = .nilI := rfl
 cases e <;> (simp only [oF, hx', hy]; simp [nS, rB, eqv, ht, hk, FT, xf]))
theorem wH {s : St} {k : Nat} {t u t2 : TypeId} {y : Operand} {e : Er} {c : Int} {i j : TI} {b : Bool} (ht : ti P t = some i) (hk : i.k = .iface b) (hu : ti P u = some j) (hc : j.cmp = true) (hj : j.k = .int .i64) (hx : lk s.σ k = .err u e) (hy : ∀ v, gj ⟨(k, v) :: s.σ, s.H, s.O, s.n⟩ y = .iface u (.int .i64 c)) :
  eV P N n0 s (.binOp .eql t (.tmp k) y t2) (.bool (e == some c)) := zu hx (by
 intro o ho w0 g0 a w g hi
 refine iV hi ?_
 rw [ho]
 have hx' := sH (s := s) (k := k) (u := u) (e := e)
 cases e <;> (simp only [oF, hx', hy]; simp [nS, rB, eqv, ht, hk, FT, hu, hc, hj]))
theorem dF (t : TypeId) (k : Nat) (c : Er) {σ : List (Nat × AV)} {H : List (Nat × Nat × AV)} {O : List (Nat × Kind)} {n : Nat} {w0 : World} {g0 : G} {a : Act} {w : World} {g : G} (h : lk σ k = nS t c) (hi : dh N n0 w0 g0 ⟨σ, H, O, n⟩ a w g) :
  ∃ g', dh N n0 w0 g0 ⟨(k, .err t c) :: σ, H, O, n⟩ a w g' := by
 refine ⟨g, hi.putS (v := .err t c) (vO.2 ?_)⟩
 have := hi.slots k; rw [show lk (St.mk σ H O n).σ k = _ from h] at this; exact this
theorem ek {X : AV} {Y : List (Nat × Nat × AV)} {Z0 : List (Nat × Kind)} {W : Nat} {F : AV → List (Nat × Nat × AV) → List (Nat × Kind) → Nat → Prop} (h : F X Y Z0 W) : ∀ r H O n, (r = X ∧ H = Y ∧ O = Z0 ∧ n = W) → F r H O n := by
 rintro _ _ _ _ ⟨rfl, rfl, rfl, rfl⟩; exact h
def oP {α : Type} (o : Option α) (m : Nat) : AV := match o with | none => .nilp | some _ => .ptr m 0
def oL {α β : Type} (o : Option α) (f : α → List β) : List β := match o with | none => [] | some x => f x
def oN {α : Type} (o : Option α) (a b : Nat) : Nat := match o with | none => a | some _ => b
def bY.cut {ε : Type} (n0 : Nat) (R : ε → Prop) (inv : ε → St) (Q : bY) : bY
 | .normal, s => ∃ e, R e ∧ ∃ L, cL n0 L 0 = true ∧ od L s (inv e)
 | ex, s => Q ex s
theorem DO {ε : Type} {R : ε → Prop} {inv : ε → St} {e : ε} (L : List Nat) (hR : R e) (hk : cL n0 L 0 = true) (hs : od L s (inv e)) : bY.cut n0 R inv Q .normal s := ⟨e, hR, L, hk, hs⟩
theorem be {S E : Type} {body : S → Option (S ⊕ E)} {m : Nat} {v0 : S} {e : E} (h : bm body m v0 = some e) (inv : S → St) (L0 : List Nat) (hk : cL n0 L0 0 = true) (hs : od L0 s (inv v0))
  (round : ∀ v o, body v = some o → (∀ e', o = .inr e' → e' = e) → cg P N n0 c (bY.then (fun s' => ∃ v', o = .inl v' ∧ ∃ L, cL n0 L 0 = true ∧ od L s' (inv v')) Q) (inv v)) : cg P N n0 (.loop c) Q s := by
 refine vv (ι := Nat × S) (fun i => inv i.2) (fun i => bm body i.1 i.2 = some e) (fun i => i.1) (m, v0) h ⟨L0, hk, hs⟩ ?_
 rintro ⟨k, v⟩ hg
 cases k with
 | zero => cases hg
 | succ k =>
  obtain ⟨o, ho, h2⟩ := bi hg
  refine DV (round v o ho fun e' he => ?_) ?_
  · subst he; exact Ke h2
  ·
   intro ex s' h3
   cases ex with
   | normal =>
    obtain ⟨v', rfl, L, hk', hs'⟩ := h3
    exact ⟨(k, v'), h2, Nat.lt_succ_self _, L, hk', hs'⟩
   | _ => exact h3
theorem DH {S E : Type} {o : S ⊕ E} {inv : S → St} {v : S} (L : List Nat) (ho : o = .inl v) (hk : cL n0 L 0 = true) (hs : od L s (inv v)) :
 bY.then (fun s' => ∃ v', o = .inl v' ∧ ∃ L, cL n0 L 0 = true ∧ od L s' (inv v')) Q .normal s := ⟨v, ho, L, hk, hs⟩
theorem zA {L : List Nat} {t : Nat} {v x : AV} {r : List (Nat × AV)} (h : lk σ t = x) (e : x = v.ren (gz L 0)) (hl : v.lim L.length = true) (k : oy σ O L r) : oy σ O L ((t, v) :: r) := ⟨⟨.inl (h.trans e), hl⟩, k⟩
theorem zC {L : List Nat} {i o : Nat} {v x : AV} {r : List (Nat × Nat × AV)} (h : d3 H (gz L 0 i) o = some x) (e : x = v.ren (gz L 0)) (hl : v.lim L.length = true) (hi : Nat.blt i L.length = true) (k : ib H O L r) : ib H O L ((i, o, v) :: r) := ⟨⟨⟨x, h, .inl e⟩, hl, hi⟩, k⟩
theorem zE {L : List Nat} {i : Nat} {K K' : Kind} {r : List (Nat × Kind)} (h : dk O (gz L 0 i) = some K') (hr : KR (gz L 0) L.length K K') (hi : Nat.blt i L.length = true) (k : iz O L r) : iz O L ((i, K) :: r) := ⟨⟨⟨K', h, hr⟩, hi⟩, k⟩
end
end Go.Pv
namespace Go.Pv
set_option linter.unusedSectionVars false
set_option linter.unusedVariables false
section
variable {P : Program} [dI P] {N n0 : Nat} {Q : bY} {ops : Array Oper} {rest : List Oper} {σ : List (Nat × AV)} {H H2 A : List (Nat × Nat × AV)} {O O2 : List (Nat × Kind)} {n n2 i : Nat}
 {d : Nat} {op : Op} {ty : TypeId} {pos : String} {af : Array Edge} {gd : Option (Nat × Bool)} {s : St} {c : Code}
theorem Ga {ε : Type} {R : ε → Prop} {inv : ε → St} (h : Q .ret s) : bY.cut n0 R inv Q .ret s := h
theorem Io {ε : Type} {R : ε → Prop} {inv : ε → St} {id : Nat} (h : Q (.exit id) s) : bY.cut n0 R inv Q (.exit id) s := h
theorem aq {x : Code} {ε : Type} (R : ε → Prop) (inv : ε → St) (hx : cg P N n0 x (bY.cut n0 R inv Q) s) (hy : ∀ e, R e → Q .normal (inv e)) : cg P N n0 x Q s := by
 intro w0 g0 a w g hi
 refine wp_mono (hx w0 g0 a w g hi) ?_
 rintro ex a' w' ⟨s', g', hq, hi'⟩
 cases ex with
 | normal =>
  obtain ⟨e, hR, L, hk, hs⟩ := hq
  exact ⟨inv e, _, hy e hR, hi'.ren hs hk⟩
 | _ => exact ⟨s', g', hq, hi'⟩
theorem dt {K : St → Prop} {v v' : AV} (h : v = v') (k : DP P N n0 ops H O i rest ((d, v') :: σ) n A K) : DP P N n0 ops H O i rest ((d, v) :: σ) n A K := h ▸ k
structure Cl (cs : List AV) : Prop where
 lim : dT 0 cs = true
 snap : ∀ O, tG O cs = cs
theorem JA {fop : Operand} {args : Array Operand} {ats : Array TypeId} {f : FuncId} {as : List AV} {r : AV} (hd : Nat.blt d N = true) (hf : ev σ fop = .fn f []) (ha : args.toList.map (gj ⟨σ, H, O, n⟩) = as) (hl : dT 0 as = true)
  (call : ai P f as (· = r)) (k : aM P N n0 ops rest Q ⟨(d, r) :: σ, H, O, n⟩) : aM P N n0 ops (⟨some d, .call ⟨.value fop, args, ats⟩, ty, pos, af, none⟩ :: rest) Q ⟨σ, H, O, n⟩ := by
 subst ha
 exact rc (K := (· = r)) (caps := []) hd hf (by rw [jh, hl]; rfl) (by rw [List.append_nil]; exact call) fun _ e => e ▸ k
theorem I1 {fop : Operand} {args : Array Operand} {ats : Array TypeId} {f : FuncId} {caps : List AV} {r : AV} (hd : Nat.blt d N = true) (hf : ev σ fop = .fn f caps) (hl : Cl caps)
  (hc : dT 0 (args.toList.map (gj ⟨σ, H, O, n⟩)) = true) (call : ai P f (args.toList.map (gj ⟨σ, H, O, n⟩) ++ caps) (· = r)) (k : aM P N n0 ops rest Q ⟨(d, r) :: σ, H, O, n⟩) :
  aM P N n0 ops (⟨some d, .call ⟨.value fop, args, ats⟩, ty, pos, af, none⟩ :: rest) Q ⟨σ, H, O, n⟩ :=
 rc (K := (· = r)) hd hf (by rw [jh, hc, hl.lim]; rfl) call fun _ e => e ▸ k
end
end Go.Pv
namespace Go.Pv
set_option linter.unusedSectionVars false
set_option linter.unusedVariables false
set_option linter.unusedSimpArgs false
section
variable {P : Program} [dI P] {N n0 : Nat} {s : St}
theorem G6 {f : FuncId} {fn : Func} {ats : Array TypeId} {x y : Operand} {a b : aY} (hf : P.funcs[f]? = some fn) (hname : (fn.name == "runtime.NumGoroutine") = false) (hb : fn.body.isNone = true) (hn : Extern.findNext fn = none)
  (he : Extern.find fn = some Extern.BytealgCompare.compare) (hx : ev s.σ x = .str (sB a)) (hy : ev s.σ y = .str (sB b)) : eV P N n0 s (.call ⟨.value (.func f), #[x, y], ats⟩) (.int .i64 (Lib.compareBytes a b)) := by
 rintro ⟨dst, op, type, pos, after, guard⟩ rfl w0 g0 u w g hi
 have h1 : u.eval x = .string (sB a) := by have := bA hi.slots x; rw [hx] at this; exact this
 have h2 : u.eval y = .string (sB b) := by have := bA hi.slots y; rw [hy] at this; exact this
 refine ⟨.int .i64 (Lib.compareBytes a b), ?_, rfl⟩
 simp only [execOp, resolve, Act.eval, Deferred.ofValue, Sem.run_bind, Sem.run_pure, Result.andThen_ok, invoke]
 have e : (#[] ++ #[x, y].map u.eval) = #[Value.string (sB a), .string (sB b)] := by simp [h1, h2]
 rw [e, Array.append_empty, run_callFunc_extern hf hname hb hn he, Lib.run_compareString]
 rfl
end
end Go.Pv
namespace Go.Pv
open Go.RowKit (Below)
set_option linter.unusedSimpArgs false
set_option linter.unusedSectionVars false
set_option linter.unusedVariables false
def rH (R : List Nat) : List (Nat × Nat × AV) → List (Nat × Nat × AV)
 | [] => []
 | e :: r => if (ej R e.1).isSome then e :: rH R r else rH R r
def rO (R : List Nat) : List (Nat × Kind) → List (Nat × Kind)
 | [] => []
 | e :: r => if (ej R e.1).isSome then e :: rO R r else rO R r
theorem ws {R : List Nat} {i o : Nat} : ∀ {H : List (Nat × Nat × AV)}, (ej R i).isSome = true → d3 (rH R H) i o = d3 H i o
 | [], _ => rfl
 | (j, p, v) :: r, h => by
  simp only [rH]
  by_cases hj : (ej R j).isSome = true
  · rw [if_pos hj]; simp only [d3]; rw [ws h]
  ·
   rw [if_neg hj, ws h]
   simp only [d3]
   rw [if_neg]
   simp only [Bool.and_eq_true, Nat.beq_eq]
   rintro ⟨rfl, _⟩; exact hj h
theorem kJ {R : List Nat} {i o : Nat} {x : AV} : ∀ {H : List (Nat × Nat × AV)}, d3 (rH R H) i o = some x → (ej R i).isSome = true
 | [], h => by simp [rH, d3] at h
 | (j, p, v) :: r, h => by
  simp only [rH] at h
  by_cases hj : (ej R j).isSome = true
  ·
   rw [if_pos hj] at h
   simp only [d3] at h
   split at h
   · rename_i hc; simp only [Bool.and_eq_true, Nat.beq_eq] at hc; rw [← hc.1]; exact hj
   · exact kJ h
  · rw [if_neg hj] at h; exact kJ h
theorem wc {R : List Nat} {i : Nat} : ∀ {O : List (Nat × Kind)}, (ej R i).isSome = true → dk (rO R O) i = dk O i
 | [], _ => rfl
 | (j, v) :: r, h => by
  simp only [rO]
  by_cases hj : (ej R j).isSome = true
  · rw [if_pos hj]; simp only [dk]; rw [wc h]
  ·
   rw [if_neg hj, wc h]
   simp only [dk]
   rw [if_neg]
   simp only [Nat.beq_eq]
   rintro rfl; exact hj h
theorem kI {R : List Nat} {i : Nat} {x : Kind} : ∀ {O : List (Nat × Kind)}, dk (rO R O) i = some x → (ej R i).isSome = true
 | [], h => by simp [rO, dk] at h
 | (j, v) :: r, h => by
  simp only [rO] at h
  by_cases hj : (ej R j).isSome = true
  ·
   rw [if_pos hj] at h
   simp only [dk] at h
   split at h
   · rename_i hc; simp only [Nat.beq_eq] at hc; rw [← hc]; exact hj
   · exact kI h
  · rw [if_neg hj] at h; exact kI h
theorem v6 {A B : List (Nat × Nat × AV)} {i o : Nat} : d3 (A ++ B) i o = match d3 A i o with | some x => some x | none => d3 B i o := by
 induction A with
 | nil => rfl
 | cons e r ih =>
  obtain ⟨j, p, v⟩ := e
  simp only [List.cons_append, d3]
  split
  · rfl
  · exact ih
theorem vM {A B : List (Nat × Kind)} {i : Nat} : dk (A ++ B) i = match dk A i with | some x => some x | none => dk B i := by
 induction A with
 | nil => rfl
 | cons e r ih =>
  obtain ⟨j, v⟩ := e
  simp only [List.cons_append, dk]
  split
  · rfl
  · exact ih
theorem oQ {L : List Nat} {i o : Nat} : ∀ {H : List (Nat × Nat × AV)}, ej L i = none → d3 (kx L H) i o = d3 H i o
 | [], _ => rfl
 | (j, p, v) :: r, h => by
  simp only [kx]
  by_cases hj : (ej L j).isNone = true
  · rw [if_pos hj]; simp only [d3]; rw [oQ h]
  ·
   rw [if_neg hj, oQ h]
   simp only [d3]
   rw [if_neg]
   simp only [Bool.and_eq_true, Nat.beq_eq]
   rintro ⟨rfl, _⟩; exact hj (by simp [h])
theorem oY {L : List Nat} {i : Nat} : ∀ {O : List (Nat × Kind)}, ej L i = none → dk (cd L O) i = dk O i
 | [], _ => rfl
 | (j, v) :: r, h => by
  simp only [cd]
  by_cases hj : (ej L j).isNone = true
  · rw [if_pos hj]; simp only [dk]; rw [oY h]
  ·
   rw [if_neg hj, oY h]
   simp only [dk]
   rw [if_neg]
   simp only [Nat.beq_eq]
   rintro rfl; exact hj (by simp [h])
def only (g : G) (R : List Nat) : G where
 blk i := if (ej R i).isSome then g.blk i else none
 own i := if (ej R i).isSome then g.own i else none
 wd i := if (ej R i).isSome then g.wd i else 0
 owner b := match g.owner b with
  | some i => if (ej R i).isSome then some i else none
  | none => none
 top := g.top
def oc (g gc : G) (R : List Nat) (n n1 : Nat) : G where
 blk i := if (ej R i).isSome || (Nat.ble n i && Nat.blt i n1) then gc.blk i else g.blk i
 own i := if (ej R i).isSome || (Nat.ble n i && Nat.blt i n1) then gc.own i else g.own i
 wd i := if (ej R i).isSome || (Nat.ble n i && Nat.blt i n1) then gc.wd i else g.wd i
 owner b := match gc.owner b with
  | some j => if (ej R j).isSome || (Nat.ble n j && Nat.blt j n1) then some j else none
  | none => match g.owner b with
   | some i => if (ej R i).isSome then none else some i
   | none => none
 top := gc.top
mutual
def AV.inR (R : List Nat) : AV → Bool
 | .ptr id _ => (ej R id).isSome
 | .own id => (ej R id).isSome
 | .eptr id _ _ => (ej R id).isSome
 | .via id _ => (ej R id).isSome
 | .iface _ x => AV.inR R x
 | .fn _ cs | .bfn _ cs | .agg cs | .tup cs => og R cs
 | _ => true
def og (R : List Nat) : List AV → Bool
 | [] => true
 | x :: r => AV.inR R x && og R r
end
mutual
theorem bU.only {w : World} {g : G} (R : List Nat) : ∀ (x : AV) (v : Value), x.inR R = true → bU w g x v → bU w (only g R) x v
 | .any, _, _, _ => trivial
 | .bool _, _, _, r => r
 | .int _ _, _, _, r => r
 | .str _, _, _, r => r
 | .nilp, _, _, r => r
 | .nilS, _, _, r => r
 | .nilM, _, _, r => r
 | .ptr id _, _, h, ⟨b, hb, e⟩ => by
  have hi : (ej R id).isSome = true := by simpa [AV.inR] using h
  exact ⟨b, by simp [Go.Pv.only, hi, hb], e⟩
 | .rd _, _, _, r => r
 | .sl _, _, _, r => r
 | .own id, v, h, r => by
  have hi : (ej R id).isSome = true := by simpa [AV.inR] using h
  have hr : g.own id = some v := r
  show (Go.Pv.only g R).own id = some v
  simp [Go.Pv.only, hi, hr]
 | .eptr id _ _, v, h, ⟨ad, l, cap, e, r⟩ => by
  have hi : (ej R id).isSome = true := by simpa [AV.inR] using h
  exact ⟨ad, l, cap, by simp [Go.Pv.only, hi, e], by simpa [Go.Pv.only, hi] using r⟩
 | .via id _, v, h, ⟨u, e, r⟩ => by
  have hi : (ej R id).isSome = true := by simpa [AV.inR] using h
  exact ⟨u, by simp [Go.Pv.only, hi, e], by simpa [Go.Pv.only, hi] using r⟩
 | .raw _, _, _, r => r
 | .nilI, _, _, r => r
 | .err _ _, _, _, r => r
 | .iface _ x, _, h, ⟨y, e, r⟩ => ⟨y, e, bU.only R x y (by simpa [AV.inR] using h) r⟩
 | .nilF, _, _, r => r
 | .fn _ cs, _, h, ⟨vs, e, r⟩ => ⟨vs, e, aG.only R cs vs (by simpa [AV.inR] using h) r⟩
 | .bfn _ cs, _, h, ⟨vs, e, r⟩ => ⟨vs, e, aG.only R cs vs (by simpa [AV.inR] using h) r⟩
 | .agg cs, _, h, ⟨vs, e, r⟩ => ⟨vs, e, aG.only R cs vs (by simpa [AV.inR] using h) r⟩
 | .tup cs, _, h, ⟨vs, e, r⟩ => ⟨vs, e, aG.only R cs vs (by simpa [AV.inR] using h) r⟩
theorem aG.only {w : World} {g : G} (R : List Nat) : ∀ (cs : List AV) (vs : List Value), og R cs = true → aG w g cs vs → aG w (only g R) cs vs
 | [], _, _, r => r
 | x :: cs, _, h, ⟨v, vs', e, r, rest⟩ => by
  simp only [og, Bool.and_eq_true] at h
  exact ⟨v, vs', e, bU.only R x v h.1 r, aG.only R cs vs' h.2 rest⟩
end
def so (R : List Nat) : List (List AV) → Bool
 | [] => true
 | x :: r => og R x && so R r
theorem re {R : List Nat} : ∀ {xs ys : List AV}, og R (xs ++ ys) = (og R xs && og R ys)
 | [], _ => rfl
 | x :: xs, ys => by simp only [List.cons_append, og, re (xs := xs), Bool.and_assoc]
theorem ov {R : List Nat} : ∀ {xs : List (List AV)}, so R xs = true → og R xs.flatten = true
 | [], _ => rfl
 | x :: xs, h => by
  simp only [so, Bool.and_eq_true] at h
  simp only [List.flatten_cons, re, h.1, ov h.2, Bool.and_self]
mutual
theorem AV.inR_closed (R : List Nat) : ∀ x : AV, x.lim 0 = true → x.inR R = true
 | .ptr id _, h => by simp [AV.lim] at h
 | .own id, h => by simp [AV.lim] at h
 | .eptr id _ _, h => by simp [AV.lim] at h
 | .via id _, h => by simp [AV.lim] at h
 | .iface _ x, h => by simp only [AV.lim] at h; simp only [AV.inR, AV.inR_closed R x h]
 | .fn _ cs, h => by simp only [AV.lim] at h; simp only [AV.inR, fc R cs h]
 | .bfn _ cs, h => by simp only [AV.lim] at h; simp only [AV.inR, fc R cs h]
 | .agg cs, h => by simp only [AV.lim] at h; simp only [AV.inR, fc R cs h]
 | .tup cs, h => by simp only [AV.lim] at h; simp only [AV.inR, fc R cs h]
 | .any, _ => rfl
 | .bool _, _ => rfl
 | .int _ _, _ => rfl
 | .str _, _ => rfl
 | .nilp, _ => rfl
 | .nilS, _ => rfl
 | .nilM, _ => rfl
 | .rd _, _ => rfl
 | .sl _, _ => rfl
 | .nilI, _ => rfl
 | .err _ _, _ => rfl
 | .nilF, _ => rfl
 | .raw _, _ => rfl
theorem fc (R : List Nat) : ∀ xs : List AV, dT 0 xs = true → og R xs = true
 | [], _ => rfl
 | x :: xs, h => by
  simp only [dT, Bool.and_eq_true] at h
  simp only [og, AV.inR_closed R x h.1, fc R xs h.2, Bool.and_self]
end
theorem pX (R : List Nat) : ∀ xs : List (List AV), fo 0 xs = true → so R xs = true
 | [], _ => rfl
 | x :: xs, h => by
  simp only [fo, Bool.and_eq_true] at h
  simp only [so, fc R x h.1, pX R xs h.2, Bool.and_self]
def GH (R : List Nat) : Kind → Prop
 | .row _ _ => True
 | .wr _ xs => so R xs = true
 | .map ks vs => og R ks = true ∧ og R vs = true
 | .sem _ => True
def HE (R : List Nat) : List (Nat × Nat × AV) → Prop
 | [] => True
 | e :: r => e.2.2.inR R = true ∧ HE R r
def CG (R : List Nat) : List (Nat × Kind) → Prop
 | [] => True
 | e :: r => GH R e.2 ∧ CG R r
def HG (R : List Nat) : List (Nat × AV) → Prop
 | [] => True
 | e :: r => e.2.inR R = true ∧ HG R r
theorem HE.lk {R : List Nat} {i o : Nat} {x : AV} : ∀ {H : List (Nat × Nat × AV)}, HE R H → d3 H i o = some x → x.inR R = true
 | [], _, h => by simp [d3] at h
 | (j, p, v) :: r, hh, h => by
  simp only [d3] at h
  split at h
  · obtain rfl := Ke h; exact hh.1
  · exact HE.lk hh.2 h
theorem CG.lk {R : List Nat} {i : Nat} {x : Kind} : ∀ {O : List (Nat × Kind)}, CG R O → dk O i = some x → GH R x
 | [], _, h => by simp [dk] at h
 | (j, v) :: r, hh, h => by
  simp only [dk] at h
  split at h
  · obtain rfl := Ke h; exact hh.1
  · exact CG.lk hh.2 h
theorem HG.lk {R : List Nat} {t : Nat} : ∀ {σ : List (Nat × AV)}, HG R σ → (Go.Pv.lk σ t).inR R = true
 | [], _ => rfl
 | (j, v) :: r, hh => by
  simp only [Go.Pv.lk]
  split
  · exact hh.1
  · exact HG.lk hh.2
theorem Kind.only {id : Nat} {w : World} {g : G} {R : List Nat} {K : Kind} (h : K.holds id w g) (hl : GH R K) (hi : (ej R id).isSome = true) : K.holds id w (only g R) := by
 have ho : ∀ b, g.owner b = some id → (Go.Pv.only g R).owner b = some id := fun b hb => by simp [Go.Pv.only, hb, hi]
 have hO : ∀ ad m, mM id w g ad m → mM id w (Go.Pv.only g R) ad m := fun ad m ⟨h1, h2, h3⟩ => ⟨h1, ho _ h2, h3⟩
 cases K with
 | row z xs =>
  obtain ⟨h1, h0, a, cap, h2, h3, h4, h5⟩ := h
  exact ⟨h1, by simpa [Go.Pv.only, hi] using h0, a, cap, by simp [Go.Pv.only, hi, h2], h3, h4, fun ad e => ⟨(h5 ad e).1, (h5 ad e).2.1, (h5 ad e).2.2.imp _root_.id fun ⟨o, t⟩ => ⟨hO _ _ o, t⟩⟩⟩
 | wr z xs =>
  obtain ⟨h1, h0, a, cap, h2, h3, h4, h5⟩ := h
  refine ⟨h1, by simpa [Go.Pv.only, hi] using h0, a, cap, by simp [Go.Pv.only, hi, h2], h3, h4, fun ad e => ?_⟩
  obtain ⟨o, t, vs, r, c⟩ := h5 ad e
  exact ⟨hO _ _ o, t, vs, aG.only R _ _ (ov hl) r, c⟩
 | map ks vs =>
  obtain ⟨b, es, clock, h1, h2, h3, h4, ok, l, hp, h5, h6⟩ := h
  exact ⟨b, es, clock, by simp [Go.Pv.only, hi, h1], ho _ h2, h3, h4, ok, l, hp, aG.only R _ _ hl.1 h5, aG.only R _ _ hl.2 h6⟩
 | sem s =>
  obtain ⟨v, h1, h2⟩ := h
  have : (fun b => (Go.Pv.only g R).owner b = some id) = fun b => g.owner b = some id := by
   funext b
   refine propext ⟨fun hb => ?_, ho b⟩
   simp only [Go.Pv.only] at hb
   split at hb
   ·
    split at hb
    · rename_i h1 _; rw [h1]; exact hb
    · cases hb
   · cases hb
  exact ⟨v, by simp [Go.Pv.only, hi, h1], by rw [this]; exact h2⟩
section
variable {P : Program} {N n0 : Nat} {w0 : World} {g0 : G} {s : St} {a : Act} {w : World} {g : G} {R : List Nat} {n n1 nF : Nat} {w' : World} {gc : G}
theorem ED (h : WF g w nF) (hR : ∀ i, (ej R i).isSome = true → i < n) : WF (only g R) w n where
 topNew := h.topNew
 ownNew b hb := by simp [only, h.ownNew b hb]
 blkOwner j b hb := by
  simp only [only] at hb ⊢
  split at hb
  ·
   rename_i hi
   obtain ⟨k1, k2, k3, k4⟩ := h.blkOwner j b hb
   exact ⟨by simp [k1, hi], k2, k3, hR j hi⟩
  · cases hb
 ownLt j v hv := by
  simp only [only] at hv
  split at hv
  · exact hR j (by assumption)
  · cases hv
 ownSl j v hv := by
  simp only [only] at hv
  split at hv
  · exact h.ownSl j v hv
  · cases hv
 sep j b hb := by
  simp only [only] at hb ⊢
  split at hb
  · rw [if_pos (by assumption)]; exact h.sep j b hb
  · cases hb
 idLt b i hb := by
  simp only [only] at hb
  cases ho : g.owner b with
  | none => simp [ho] at hb
  | some j =>
   simp only [ho] at hb
   split at hb
   · obtain rfl := Ke hb; exact hR _ (by assumption)
   · cases hb
def Dn (g : G) (k : Nat) : Prop := g.blk k = none ∧ g.own k = none ∧ ∀ b, g.owner b ≠ some k
variable (hw : WF g w nF) (hR : ∀ i, (ej R i).isSome = true → i < n) (hfree : ∀ k, n ≤ k → k < n1 → Dn g k) (hwc : WF gc w' n1) (hn : n ≤ n1) (hnF : n1 ≤ nF) (hf : gx w (only g R) n w' gc)
include hw hR hfree hwc hn hnF hf
theorem sK {b i : Nat} (h : g.owner b = some i) (hi : (ej R i).isSome = false) : gc.owner b = none ∧ gc.top b = g.top b ∧ w'.heap[b]? = w.heap[b]? ∧ (oc g gc R n n1).owner b = some i := by
 have hb := hw.ownerLt h
 have h0 : (only g R).owner b = none := by simp [only, h, hi]
 obtain ⟨k1, k2⟩ := hf.foreign b hb h0
 exact ⟨k1, k2, hf.block b hb h0, by simp [oc, k1, h, hi]⟩
theorem GZ : WF (oc g gc R n n1) w' nF where
 topNew := hwc.topNew
 ownNew b hb := by
  have h1 := hwc.ownNew b hb
  have h2 := hw.ownNew b (Nat.le_trans hf.size hb)
  simp [oc, h1, h2]
 blkOwner id b hb := by
  simp only [oc] at hb
  split at hb
  ·
   rename_i hc
   obtain ⟨q1, q2, q3, q4⟩ := hwc.blkOwner id b hb
   exact ⟨by simp only [oc, q1]; rw [if_pos hc], q2, q3, by omega⟩
  ·
   rename_i hc
   simp only [Bool.or_eq_true, not_or] at hc
   obtain ⟨k1, k2, k3, k4⟩ := hw.blkOwner id b hb
   obtain ⟨q1, q2, q3, q4⟩ := sK hw hR hfree hwc hn hnF hf k1 (by simpa using hc.1)
   exact ⟨q4, Nat.lt_of_lt_of_le k2 hf.size, by show gc.top b = 0; rw [q2]; exact k3, k4⟩
 ownLt id v hv := by
  simp only [oc] at hv
  split at hv
  · have := hwc.ownLt id v hv; omega
  · exact hw.ownLt id v hv
 ownSl id v hv := by
  simp only [oc] at hv
  split at hv
  · exact hwc.ownSl id v hv
  · exact hw.ownSl id v hv
 sep id b hb := by
  simp only [oc] at hb ⊢
  split at hb
  · rw [if_pos (by assumption)]; exact hwc.sep id b hb
  · rw [if_neg (by assumption)]; exact hw.sep id b hb
 idLt b i hb := by
  simp only [oc] at hb
  cases hc : gc.owner b with
  | some j =>
   simp only [hc] at hb
   split at hb
   ·
    obtain rfl := Ke hb
    have := hwc.idLt b _ hc; omega
   · cases hb
  | none =>
   simp only [hc] at hb
   cases ho : g.owner b with
   | none => simp [ho] at hb
   | some j =>
    simp only [ho] at hb
    split at hb
    · cases hb
    ·
     obtain rfl := Ke hb
     exact hw.idLt b _ ho
theorem An {id : Nat} (h : id < n ∨ g.blk id ≠ none) : (oc g gc R n n1).blk id = g.blk id := by
 simp only [oc]
 split
 ·
  rename_i hc
  simp only [Bool.or_eq_true, Bool.and_eq_true, Nat.ble_eq, Nat.blt_eq] at hc
  rcases hc with hc | hc
  · rw [hf.blk id (hR id hc)]; simp [only, hc]
  ·
   rcases h with h | h
   · omega
   · exact absurd (hfree id hc.1 hc.2).1 h
 · rfl
theorem r7 {id : Nat} (h : id < n ∨ g.own id ≠ none) : (oc g gc R n n1).own id = g.own id ∧ (oc g gc R n n1).wd id = g.wd id := by
 simp only [oc]
 split
 ·
  rename_i hc
  simp only [Bool.or_eq_true, Bool.and_eq_true, Nat.ble_eq, Nat.blt_eq] at hc
  rcases hc with hc | hc
  · rw [hf.own id (hR id hc), hf.wd id (hR id hc)]; simp [only, hc]
  ·
   rcases h with h | h
   · omega
   · exact absurd (hfree id hc.1 hc.2).2.1 h
 · exact ⟨rfl, rfl⟩
theorem xz : gC w g w' (oc g gc R n n1) where
 t := ⟨hf.top, hf.stable⟩
 blk id b hb := by rw [An hw hR hfree hwc hn hnF hf (.inr (by simp [hb]))]; exact hb
 own id v hv := by rw [(r7 hw hR hfree hwc hn hnF hf (.inr (by simp [hv]))).1]; exact hv
 wd id v hv := (r7 hw hR hfree hwc hn hnF hf (.inr (by simp [hv]))).2
theorem B0 (h : gx w0 g0 n0 w g) (hn0 : n0 ≤ n) : gx w0 g0 n0 w' (oc g gc R n n1) where
 os := hf.os.trans h.os
 tape := hf.tape.trans h.tape
 output := hf.output.trans h.output
 size := Nat.le_trans h.size hf.size
 block b hb ho := by
  obtain ⟨k1, k2⟩ := h.foreign b hb ho
  exact (hf.block b (Nat.lt_of_lt_of_le hb h.size) (by simp [only, k1])).trans (h.block b hb ho)
 foreign b hb ho := by
  obtain ⟨k1, k2⟩ := h.foreign b hb ho
  obtain ⟨q1, q2⟩ := hf.foreign b (Nat.lt_of_lt_of_le hb h.size) (by simp [only, k1])
  exact ⟨by simp [oc, q1, k1], by show gc.top b = _; rw [q2]; exact k2⟩
 top b := Nat.le_trans (h.top b) (hf.top b)
 stable b o ho := (hf.stable b o (Nat.lt_of_lt_of_le ho (h.top b))).trans (h.stable b o ho)
 blk id hi := by rw [An hw hR hfree hwc hn hnF hf (.inl (by omega))]; exact h.blk id hi
 own id hi := by rw [(r7 hw hR hfree hwc hn hnF hf (.inl (by omega))).1]; exact h.own id hi
 wd id hi := by rw [(r7 hw hR hfree hwc hn hnF hf (.inl (by omega))).2]; exact h.wd id hi
theorem Cp : gC w' gc w' (oc g gc R n n1) where
 t := ⟨fun _ => Nat.le_refl _, fun _ _ _ => rfl⟩
 blk id b hb := by
  have hlt := (hwc.blkOwner id b hb).2.2.2
  simp only [oc]
  split
  · exact hb
  ·
   rename_i hc
   exfalso
   simp only [Bool.or_eq_true, Bool.and_eq_true, Nat.ble_eq, Nat.blt_eq, not_or, not_and] at hc
   have hlt2 : id < n := by
    refine Classical.byContradiction fun h => ?_
    exact hc.2 (by omega) hlt
   have := hf.blk id hlt2
   rw [hb] at this
   simp [only, hc.1] at this
 own id v hv := by
  have hlt := hwc.ownLt id v hv
  simp only [oc]
  split
  · exact hv
  ·
   rename_i hc
   exfalso
   simp only [Bool.or_eq_true, Bool.and_eq_true, Nat.ble_eq, Nat.blt_eq, not_or, not_and] at hc
   have hlt2 : id < n := by
    refine Classical.byContradiction fun h => ?_
    exact hc.2 (by omega) hlt
   have := hf.own id hlt2
   rw [hv] at this
   simp [only, hc.1] at this
 wd id v hv := by
  have hlt := hwc.ownLt id v hv
  simp only [oc]
  split
  · rfl
  ·
   rename_i hc
   exfalso
   simp only [Bool.or_eq_true, Bool.and_eq_true, Nat.ble_eq, Nat.blt_eq, not_or, not_and] at hc
   have hlt2 : id < n := by
    refine Classical.byContradiction fun h => ?_
    exact hc.2 (by omega) hlt
   have := hf.own id hlt2
   rw [hv] at this
   simp [only, hc.1] at this
theorem C0 {k : Nat} (hk : Dn g k) (h : ¬ (n ≤ k ∧ k < n1)) (hkR : (ej R k).isSome = false) : Dn (oc g gc R n n1) k := by
 have h0 : (only g R).blk k = none ∧ (only g R).own k = none := by
  constructor
  ·
   simp only [only]; split
   · exact hk.1
   · rfl
  ·
   simp only [only]; split
   · exact hk.2.1
   · rfl
 have hgc : gc.blk k = none ∧ gc.own k = none := by
  by_cases hlt : k < n
  · exact ⟨(hf.blk k hlt).trans h0.1, (hf.own k hlt).trans h0.2⟩
  ·
   constructor
   ·
    cases hb : gc.blk k with
    | none => rfl
    | some b => have := (hwc.blkOwner k b hb).2.2.2; omega
   ·
    cases hb : gc.own k with
    | none => rfl
    | some b => have := hwc.ownLt k b hb; omega
 refine ⟨?_, ?_, fun b hb => ?_⟩
 ·
  simp only [oc]; split
  · exact hgc.1
  · exact hk.1
 ·
  simp only [oc]; split
  · exact hgc.2
  · exact hk.2.1
 ·
  simp only [oc] at hb
  cases hc : gc.owner b with
  | some j =>
   simp only [hc] at hb
   split at hb
   ·
    rename_i hh
    obtain rfl := Ke hb
    simp only [hkR, Bool.false_or, Bool.and_eq_true, Nat.ble_eq, Nat.blt_eq] at hh
    exact h hh
   · cases hb
  | none =>
   simp only [hc] at hb
   cases ho : g.owner b with
   | none => simp [ho] at hb
   | some j =>
    simp only [ho] at hb
    split at hb
    · cases hb
    ·
     obtain rfl := Ke hb
     exact hk.2.2 b ho
theorem Cu {id : Nat} {K : Kind} (h : K.holds id w' gc) : K.holds id w' (oc g gc R n n1) := by
 have hup := Cp hw hR hfree hwc hn hnF hf
 obtain ⟨v, hv⟩ := Kind.own_some h
 have hlt := hwc.ownLt id v hv
 have hin : ((ej R id).isSome || (Nat.ble n id && Nat.blt id n1)) = true := by
  cases hi : (ej R id).isSome with
  | true => rfl
  | false =>
   by_cases h2 : id < n
   ·
    have := hf.own id h2
    rw [hv] at this
    simp [only, hi] at this
   · simp; omega
 refine Kind.keep h ⟨hup, fun b hb => ⟨rfl, ?_, rfl⟩, fun b hb => ?_⟩
 · simp only [oc, hb]; rw [if_pos hin]
 ·
  simp only [oc] at hb
  cases hc : gc.owner b with
  | some j =>
   simp only [hc] at hb
   split at hb
   · exact hb
   · cases hb
  | none =>
   exfalso
   simp only [hc] at hb
   cases ho : g.owner b with
   | none => simp [ho] at hb
   | some j =>
    simp only [ho] at hb
    split at hb
    · cases hb
    ·
     rename_i hj
     obtain rfl := Ke hb
     simp only [Bool.or_eq_true, Bool.and_eq_true, Nat.ble_eq, Nat.blt_eq] at hin
     rcases hin with hin | hin
     · exact hj hin
     · exact (hfree _ hin.1 hin.2).2.2 b ho
theorem Dy {id : Nat} {K : Kind} (h : K.holds id w g) (hi : (ej R id).isSome = false) : K.holds id w' (oc g gc R n n1) := by
 have hm := xz hw hR hfree hwc hn hnF hf
 obtain ⟨v, hv⟩ := Kind.own_some h
 refine Kind.keep h ⟨hm, fun b hb => ?_, fun b hb => ?_⟩
 ·
  obtain ⟨q1, q2, q3, q4⟩ := sK hw hR hfree hwc hn hnF hf hb hi
  exact ⟨q3, q4, q2⟩
 ·
  simp only [oc] at hb
  cases hc : gc.owner b with
  | some j =>
   simp only [hc] at hb
   split at hb
   ·
    rename_i hh
    exfalso
    obtain rfl := Ke hb
    simp only [hi, Bool.false_or, Bool.and_eq_true, Nat.ble_eq, Nat.blt_eq] at hh
    have := (hfree _ hh.1 hh.2).2.1
    rw [hv] at this; cases this
   · cases hb
  | none =>
   simp only [hc] at hb
   cases ho : g.owner b with
   | none => simp [ho] at hb
   | some j =>
    simp only [ho] at hb
    split at hb
    · cases hb
    · exact hb
end
theorem Gj {P : Program} {o : Oper} {a : Act} {w : World} {K : Act → World → Prop} {Q Q2 : Exit → Act → World → Prop} (hp : ∀ c a w, ¬ Q (.panic c) a w) (hl : ¬ LetsOut Q) (h : o.wp P a w K Q) :
  o.wp P a w (fun a' w' => K a' w' ∧ ∃ u, a'.tmps = (a.put o.dst u).tmps) Q2 := by
 unfold Oper.wp at *
 generalize (execOp a.eval o).run P w = r at *
 cases r with
 | ok n w' =>
  cases n <;> simp only [Oper.upon] at h ⊢
  case value v => exact ⟨h, v, rfl⟩
  case skip => exact ⟨h, undef, rfl⟩
  case defer d => exact ⟨h, undef, by cases hd : o.dst <;> simp [Act.put]⟩
  case enter f args =>
   refine Calls.mono h fun e w'' he => ?_
   cases e with
   | returned v => exact ⟨he, v, rfl⟩
   | panicked c => exact (hp _ _ _ he).elim
   | outgrown => exact (hl he).elim
  case row r args => exact Rows.mono h fun v w'' he => ⟨he, v, rfl⟩
 | halt x w' =>
  cases x <;> simp only [Oper.upon] at h ⊢
  case panic v => exact (hp _ _ _ h).elim
end Go.Pv
namespace Go.Pv
open Go.RowKit (Below)
set_option linter.unusedSimpArgs false
set_option linter.unusedSectionVars false
set_option linter.unusedVariables false
def de (l : List Nat) (i : Nat) : Bool := (ej l i).isSome
theorem tA {i : Nat} : ∀ {A B : List Nat}, de (A ++ B) i = (de A i || de B i)
 | [], _ => rfl
 | x :: A, B => by
  have ih := tA (i := i) (A := A) (B := B)
  simp only [de, List.cons_append, ej] at ih ⊢
  by_cases h : Nat.beq x i = true
  · simp [h]
  ·
   simp only [h, Bool.false_eq_true, if_false]
   cases h1 : ej (A ++ B) i <;> cases h2 : ej A i <;> cases h3 : ej B i <;> simp_all
theorem oG {i : Nat} : ∀ (k n : Nat), de (List.range' n k) i = (Nat.ble n i && Nat.blt i (n + k))
 | 0, n => by
  simp only [List.range'_zero, de, ej]
  cases h : (Nat.ble n i && Nat.blt i (n + 0)) with
  | false => rfl
  | true => simp only [Bool.and_eq_true, Nat.ble_eq, Nat.blt_eq] at h; omega
 | k + 1, n => by
  have ih := oG k (n + 1) (i := i)
  simp only [de, List.range'_succ, ej] at ih ⊢
  by_cases h : Nat.beq n i = true
  ·
   have : n = i := by simpa using h
   subst this
   simp
  ·
   simp only [h, Bool.false_eq_true, if_false]
   have e : (match ej (List.range' (n + 1) k) i with | some j => some (j + 1) | none => none).isSome = (ej (List.range' (n + 1) k) i).isSome := by cases ej (List.range' (n + 1) k) i <;> rfl
   refine e.trans ?_
   rw [ih]
   have hne : n ≠ i := by simpa using h
   rw [Bool.eq_iff_iff]; simp only [Bool.and_eq_true, Nat.ble_eq, Nat.blt_eq]; omega
structure XI where
 R : List Nat
 W : List Nat
 H : List (Nat × Nat × AV)
 O : List (Nat × Kind)
 n : Nat
def lm (d : Option Tmp) (v : AV) (σ : List (Nat × AV)) : List (Nat × AV) :=
 match d with
 | some d => (d, v) :: σ
 | none => σ
def vq (W : List Nat) : List (Nat × Nat × AV) → Bool
 | [] => true
 | e :: r => de W e.1 && vq W r
def uS (W : List Nat) : List (Nat × Kind) → Bool
 | [] => true
 | e :: r => de W e.1 && uS W r
theorem yy {W : List Nat} {i o : Nat} : ∀ {H : List (Nat × Nat × AV)}, vq W H = true → de W i = false → d3 H i o = none
 | [], _, _ => rfl
 | (j, p, v) :: r, h, hi => by
  simp only [vq, Bool.and_eq_true] at h
  simp only [d3]
  rw [if_neg]
  · exact yy h.2 hi
  ·
   simp only [Bool.and_eq_true, Nat.beq_eq]
   rintro ⟨rfl, _⟩; rw [hi] at h; cases h.1
theorem yK {W : List Nat} {i : Nat} : ∀ {O : List (Nat × Kind)}, uS W O = true → de W i = false → dk O i = none
 | [], _, _ => rfl
 | (j, v) :: r, h, hi => by
  simp only [uS, Bool.and_eq_true] at h
  simp only [dk]
  rw [if_neg]
  · exact yK h.2 hi
  ·
   simp only [Nat.beq_eq]
   rintro rfl; rw [hi] at h; cases h.1
theorem zm {L : List Nat} {i o : Nat} (h : de L i = true) : ∀ H : List (Nat × Nat × AV), d3 (kx L H) i o = none := fun H => by
 cases hx : d3 (kx L H) i o with
 | none => rfl
 | some y => have := (lS hx).2; unfold de at h; rw [this] at h; cases h
theorem zt {L : List Nat} {i : Nat} (h : de L i = true) : ∀ O : List (Nat × Kind), dk (cd L O) i = none := fun O => by
 cases hx : dk (cd L O) i with
 | none => rfl
 | some y => have := (iK hx).2; unfold de at h; rw [this] at h; cases h
theorem vl {L : List Nat} {i : Nat} (h : de L i = false) : ej L i = none := by
 unfold de at h; cases hx : ej L i with
 | none => rfl
 | some _ => rw [hx] at h; cases h
def uJ (W : List Nat) (H1 H : List (Nat × Nat × AV)) := H1 ++ kx W H
def uA (W : List Nat) (O1 O : List (Nat × Kind)) := O1 ++ cd W O
theorem A3 {W : List Nat} {H1 H : List (Nat × Nat × AV)} {i o : Nat} (h : de W i = true) : d3 (uJ W H1 H) i o = d3 H1 i o := by
 rw [uJ, v6, zm h]; cases d3 H1 i o <;> rfl
theorem yl {W : List Nat} {H1 H : List (Nat × Nat × AV)} {i o : Nat} (hk : vq W H1 = true) (h : de W i = false) : d3 (uJ W H1 H) i o = d3 H i o := by
 rw [uJ, v6, yy hk h, oQ (vl h)]
theorem Ak {W : List Nat} {O1 O : List (Nat × Kind)} {i : Nat} (h : de W i = true) : dk (uA W O1 O) i = dk O1 i := by
 rw [uA, vM, zt h]; cases dk O1 i <;> rfl
theorem xK {W : List Nat} {O1 O : List (Nat × Kind)} {i : Nat} (hk : uS W O1 = true) (h : de W i = false) : dk (uA W O1 O) i = dk O i := by
 rw [uA, vM, yK hk h, oY (vl h)]
def pA (n : Nat) : List Nat → Bool
 | [] => true
 | i :: r => Nat.blt i n && pA n r
theorem mT {n i : Nat} : ∀ {R : List Nat}, pA n R = true → de R i = true → i < n
 | [], _, h => by simp [de, ej] at h
 | x :: R, h, hm => by
  simp only [pA, Bool.and_eq_true, Nat.blt_eq] at h
  simp only [de, ej] at hm
  by_cases hx : Nat.beq x i = true
  ·
   have : x = i := by simpa using hx
   omega
  ·
   simp only [hx, Bool.false_eq_true, if_false] at hm
   refine mT h.2 ?_
   unfold de; cases h2 : ej R i with
   | none => simp [h2] at hm
   | some _ => rfl
inductive Hv (P : Program) [dI P] (N n0 : Nat) (ops : Array Oper) (σ : List (Nat × AV)) (H : List (Nat × Nat × AV)) (O : List (Nat × Kind)) (n : Nat) (o : Oper) : XI → List (Nat × AV) → List (Nat × Nat × AV) → List (Nat × Kind) → Nat → Prop
 | val {d : Nat} {v : AV} (R : List Nat) (hd : o.dst = some d) (hN : Nat.blt d N = true) (hg : bH ops σ o.guard = some true) (hs : ∀ m, yQ P N n0 ⟨ci o σ, rH R H, rO R O, m⟩ { o with guard := none } v) :
  Hv P N n0 ops σ H O n o ⟨R, [], H, O, n⟩ ((d, v) :: σ) H O n
 | no {d : Nat} (hd : o.dst = some d) (hN : Nat.blt d N = true) (hg : bH ops σ o.guard = some false) : Hv P N n0 ops σ H O n o ⟨[], [], H, O, n⟩ ((d, .tup []) :: σ) H O n
 | eff {v : AV} {n1 : Nat} {H1 : List (Nat × Nat × AV)} {O1 : List (Nat × Kind)} (R : List Nat) (hd : uw N o.dst = true) (hg : bH ops σ o.guard = some true)
  (hs : aM P N n ops [{ o with guard := none }] (fun e s' => e = .normal ∧ s' = ⟨lm o.dst v (ci o σ), H1, O1, n1⟩) ⟨ci o σ, rH R H, rO R O, n⟩)
  (hRn : pA n R = true) (hn : n ≤ n1) (h1 : vq (R ++ List.range' n (n1 - n)) H1 = true) (h2 : uS (R ++ List.range' n (n1 - n)) O1 = true)
  (hS : HG R (ci o σ)) (hH : HE R (rH R H)) (hO : CG R (rO R O)) :
  Hv P N n0 ops σ H O n o ⟨R, R ++ List.range' n (n1 - n), H, O, n⟩ (lm o.dst v σ) (uJ (R ++ List.range' n (n1 - n)) H1 H) (uA (R ++ List.range' n (n1 - n)) O1 O) n1
inductive PX (P : Program) [dI P] (N n0 : Nat) (ops : Array Oper) : List Oper → List (Nat × AV) → List (Nat × Nat × AV) → List (Nat × Kind) → Nat → List XI → List (Nat × AV) → List (Nat × Nat × AV) → List (Nat × Kind) → Nat → Prop
 | nil {σ H O n} : PX P N n0 ops [] σ H O n [] σ H O n
 | cons {o rest σ H O n x σ1 H1 O1 n1 xs σ' H' O' n'} (one : Hv P N n0 ops σ H O n o x σ1 H1 O1 n1) (k : PX P N n0 ops rest σ1 H1 O1 n1 xs σ' H' O' n') : PX P N n0 ops (o :: rest) σ H O n (x :: xs) σ' H' O' n'
 | eqv {l σ H O n xs σ' H' O' n' σ₁} (h : ∀ t, lk σ₁ t = lk σ t) (k : PX P N n0 ops l σ₁ H O n xs σ' H' O' n') : PX P N n0 ops l σ H O n xs σ' H' O' n'
section
variable {P : Program} [dI P] {N n0 : Nat} {ops : Array Oper} {σ σ1 σ' : List (Nat × AV)} {H H1 H' : List (Nat × Nat × AV)} {O O1 O' : List (Nat × Kind)} {n n1 n' : Nat} {o : Oper} {x : XI} {xs : List XI} {l : List Oper}
theorem Hv.facts (h : Hv P N n0 ops σ H O n o x σ1 H1 O1 n1) : x.H = H ∧ x.O = O ∧ x.n = n ∧ n ≤ n1 ∧ (∀ t, o.dst ≠ some t → lk σ1 t = lk σ t) ∧
  (∀ i, de x.W i = false → (∀ off, d3 H1 i off = d3 H i off) ∧ dk O1 i = dk O i) ∧ (∀ k, n ≤ k → k < n1 → de x.W k = true) ∧ (∀ i, de x.R i = true → x.W ≠ [] → i < n) := by
 cases h with
 | val R hd hN hg hs =>
  refine ⟨rfl, rfl, rfl, Nat.le_refl _, fun t ht => ?_, fun i _ => ⟨fun _ => rfl, rfl⟩, fun k h1 h2 => absurd h1 (by omega), fun i _ h => absurd rfl h⟩
  simp only [lk]; rw [if_neg]; rw [hd] at ht; simp only [Nat.beq_eq]; exact fun e => ht (by rw [e])
 | no hd hN hg =>
  refine ⟨rfl, rfl, rfl, Nat.le_refl _, fun t ht => ?_, fun i _ => ⟨fun _ => rfl, rfl⟩, fun k h1 h2 => absurd h1 (by omega), fun i _ h => absurd rfl h⟩
  simp only [lk]; rw [if_neg]; rw [hd] at ht; simp only [Nat.beq_eq]; exact fun e => ht (by rw [e])
 | @eff v n1' H1' O1' R hd hg hs hRn hn h1 h2 hS hH hO =>
  refine ⟨rfl, rfl, rfl, hn, fun t ht => ?_, fun i hi => ⟨fun off => yl h1 hi, xK h2 hi⟩, fun k hk1 hk2 => ?_, fun i hi _ => mT hRn hi⟩
  ·
   cases hd' : o.dst with
   | none => rfl
   | some d =>
    simp only [lm, lk]; rw [if_neg]; rw [hd'] at ht; simp only [Nat.beq_eq]; exact fun e => ht (by rw [e])
  ·
   simp only [tA, oG]
   have : (Nat.ble n k && Nat.blt k (n + (n1 - n))) = true := by simp; omega
   rw [this]; simp
def Es (ops : Array Oper) : List Oper → Bool
 | [] => true
 | o :: rest => (match o.dst with | some d => !(dC ops o).contains d | none => true) &&
  rest.all (fun r => match r.dst with | some d => o.dst != some d && !(dC ops o).contains d | none => true) && Es ops rest
theorem pS {o : Oper} {rest : List Oper} (h : Es ops (o :: rest) = true) : Es ops rest = true ∧ (∀ d, o.dst = some d → d ∉ dC ops o) ∧ (∀ t, (o.dst = some t ∨ t ∈ dC ops o) → ∀ r ∈ rest, r.dst ≠ some t) := by
 simp only [Es, Bool.and_eq_true, List.all_eq_true] at h
 refine ⟨h.2, fun d hd => ?_, fun t ht r hr e => ?_⟩
 · have := h.1.1; rw [hd] at this; simp only [List.contains_eq_mem] at this; simpa using this
 ·
  have := h.1.2 r hr
  rw [e] at this
  simp only [Bool.and_eq_true, bne_iff_ne, ne_eq, Bool.not_eq_true'] at this
  rcases ht with ht | ht
  · exact this.1 ht
  · have h2 := this.2; rw [List.contains_eq_mem] at h2; simp at h2; exact h2 ht
theorem PX.lk_same (h : PX P N n0 ops l σ H O n xs σ' H' O' n') : ∀ t, (∀ o ∈ l, o.dst ≠ some t) → lk σ' t = lk σ t := by
 induction h with
 | nil => intro t _; rfl
 | cons one k ih =>
  intro t ht
  rw [ih t (fun o ho => ht o (by simp [ho]))]
  exact one.facts.2.2.2.2.1 t (ht _ (List.mem_cons_self ..))
 | eqv h k ih => intro t ht; rw [ih t ht, h t]
def yV (xs : List XI) (H' : List (Nat × Nat × AV)) (t : Nat) : List (Nat × Nat × AV) := match xs[t]? with | some x => x.H | none => H'
def yW (xs : List XI) (O' : List (Nat × Kind)) (t : Nat) : List (Nat × Kind) := match xs[t]? with | some x => x.O | none => O'
def uq (xs : List XI) (n' : Nat) (t : Nat) : Nat := match xs[t]? with | some x => x.n | none => n'
theorem PX.len (h : PX P N n0 ops l σ H O n xs σ' H' O' n') : xs.length = l.length := by
 induction h with
 | nil => rfl
 | cons one k ih => simp [ih]
 | eqv h k ih => exact ih
theorem PX.zero (h : PX P N n0 ops l σ H O n xs σ' H' O' n') : yV xs H' 0 = H ∧ yW xs O' 0 = O ∧ uq xs n' 0 = n := by
 induction h with
 | nil => exact ⟨rfl, rfl, rfl⟩
 | cons one k ih => exact ⟨one.facts.1, one.facts.2.1, one.facts.2.2.1⟩
 | eqv h k ih => exact ih
theorem PX.at (h : PX P N n0 ops l σ H O n xs σ' H' O' n') (hok : Es ops l = true) : ∀ k o, l[k]? = some o → ∃ x σk σk1, xs[k]? = some x ∧ Hv P N n0 ops σk (yV xs H' k) (yW xs O' k) (uq xs n' k) o x σk1 (yV xs H' (k + 1)) (yW xs O' (k + 1)) (uq xs n' (k + 1)) ∧
  (∀ t ∈ dC ops o, lk σ' t = lk σk t) ∧ (∀ d, o.dst = some d → lk σ' d = lk σk1 d) := by
 induction h with
 | nil => intro k o h; simp at h
 | eqv h k ih => exact ih hok
 | @cons o rest σ H O n x σ1 H1 O1 n1 xs σ' H' O' n' one k ih =>
  intro j q hq
  obtain ⟨hok1, hself, hrest⟩ := pS hok
  cases j with
  | zero =>
   simp at hq; subst hq
   obtain ⟨e1, e2, e3⟩ := k.zero
   obtain ⟨f1, f2, f3, _, f5, _⟩ := one.facts
   refine ⟨x, σ, σ1, rfl, ?_, fun t ht => ?_, fun d hd => k.lk_same d (hrest d (.inl hd))⟩
   ·
    have g1 : yV (x :: xs) H' (0 + 1) = H1 := e1
    have g2 : yW (x :: xs) O' (0 + 1) = O1 := e2
    have g3 : uq (x :: xs) n' (0 + 1) = n1 := e3
    have g4 : yV (x :: xs) H' 0 = H := f1
    have g5 : yW (x :: xs) O' 0 = O := f2
    have g6 : uq (x :: xs) n' 0 = n := f3
    rw [g1, g2, g3, g4, g5, g6]; exact one
   ·
    rw [k.lk_same t (hrest t (.inr ht))]
    exact f5 t fun e => hself t e ht
  | succ j =>
   obtain ⟨y, σk, σk1, h1, h2, h3, h4⟩ := ih hok1 j q (by simpa using hq)
   exact ⟨y, σk, σk1, h1, h2, h3, h4⟩
theorem PX.nmono (h : PX P N n0 ops l σ H O n xs σ' H' O' n') : (∀ t, uq xs n' t ≤ uq xs n' (t + 1)) ∧ n ≤ n' := by
 induction h with
 | nil => exact ⟨fun t => Nat.le_refl _, Nat.le_refl _⟩
 | eqv h k ih => exact ih
 | @cons o rest σ H O n x σ1 H1 O1 n1 xs σ' H' O' n' one k ih =>
  obtain ⟨e1, e2, e3⟩ := k.zero
  obtain ⟨_, _, f3, f4, _⟩ := one.facts
  refine ⟨fun t => ?_, by omega⟩
  cases t with
  | zero =>
   have g3 : uq (x :: xs) n' (0 + 1) = n1 := e3
   have g6 : uq (x :: xs) n' 0 = n := f3
   rw [g3, g6]; exact f4
  | succ t => exact ih.1 t
def tF (ops : Array Oper) (i j : Nat) : Bool := match ops[j]? with
 | some o => pD o i
 | none => false
def tJ (ops : Array Oper) : List Nat → Bool
 | a :: b :: r => tF ops a b && tJ ops (b :: r)
 | _ => true
def qR (x y : XI) : Bool := x.W.any (fun i => de y.R i || de y.W i) || x.R.any (fun i => de y.W i)
def rX (ops : Array Oper) (ps : List (List Nat)) (i j : Nat) : Bool := tF ops i j || ps.any fun p => p.head? == some i && p.getLast? == some j && Nat.blt 1 p.length && tJ ops p
def B2 (ops : Array Oper) (xs : List XI) (ps : List (List Nat)) : Bool :=
 (List.range xs.length).all fun j => (List.range j).all fun i => match xs[i]?, xs[j]? with
  | some x, some y => !qR x y || rX ops ps i j
  | _, _ => true
def sF (ops : Array Oper) (L : Array Bool) : Prop := ∀ j o, ops[j]? = some o → L.getD j false = true → ∀ e ∈ o.after.toList, Region.binds .any e = true → L.getD e.on false = true
theorem A2 {L : Array Bool} (hc : sF ops L) {j : Nat} {q : Oper} (hq : ops[j]? = some q) (hj : ∀ e ∈ q.after.toList, Region.binds .any e = true → L.getD e.on false = true) :
  ∀ p : List Nat, tJ ops p = true → 1 < p.length → p.getLast? = some j → ∀ i, p.head? = some i → L.getD i false = true
 | [], _, h, _, _, _ => by simp at h
 | [a], _, h, _, _, _ => by simp at h
 | [a, b], hp, _, hl, i, hi => by
  simp at hl hi; subst hl; subst hi
  simp only [tJ, Bool.and_true, tF, hq] at hp
  exact fY hp hj
 | a :: b :: c :: r, hp, _, hl, i, hi => by
  simp at hi; subst hi
  rw [tJ, Bool.and_eq_true] at hp
  have hb := A2 hc hq hj (b :: c :: r) hp.2 (by simp) (by simpa using hl) b rfl
  have h1 := hp.1
  unfold tF at h1
  cases ho : ops[b]? with
  | none => rw [ho] at h1; cases h1
  | some o => rw [ho] at h1; exact fY h1 (hc b o ho hb)
theorem tc {L : Array Bool} (hc : sF ops L) {j : Nat} {q : Oper} (hq : ops[j]? = some q) (hj : ∀ e ∈ q.after.toList, Region.binds .any e = true → L.getD e.on false = true) {ps : List (List Nat)} {i : Nat}
  (h : rX ops ps i j = true) : L.getD i false = true := by
 simp only [rX, Bool.or_eq_true, List.any_eq_true] at h
 rcases h with h | ⟨p, _, h⟩
 · unfold tF at h; rw [hq] at h; exact fY h hj
 ·
  simp only [Bool.and_eq_true, beq_iff_eq, Nat.blt_eq] at h
  exact A2 hc hq hj p h.2 h.1.2 h.1.1.2 i h.1.1.1
theorem xT {ps : List (List Nat)} (h : B2 ops xs ps = true) {i j : Nat} {x y : XI} (hx : xs[i]? = some x) (hy : xs[j]? = some y) (hij : i < j) (hc : qR x y = true) : rX ops ps i j = true := by
 unfold B2 at h
 rw [List.all_eq_true] at h
 have hj : j < xs.length := (List.getElem?_eq_some_iff.1 hy).1
 have h1 := h j (List.mem_range.2 hj)
 rw [List.all_eq_true] at h1
 have h2 := h1 i (List.mem_range.2 hij)
 rw [hx, hy] at h2
 simpa [hc] using h2
theorem xR {l : List Nat} {i : Nat} (h : de l i = true) : i ∈ l := by
 unfold de at h
 cases hx : ej l i with
 | none => rw [hx] at h; cases h
 | some k => exact List.mem_of_getElem? (pp hx)
theorem rR {x y : XI} {i : Nat} (h : de x.W i = true) (k : de y.R i = true ∨ de y.W i = true) : qR x y = true := by
 simp only [qR, Bool.or_eq_true, List.any_eq_true]
 exact .inl ⟨i, xR h, by rcases k with k | k <;> simp [k]⟩
theorem E7 {x y : XI} {i : Nat} (h : de x.R i = true) (k : de y.W i = true) : qR x y = true := by
 simp only [qR, Bool.or_eq_true, List.any_eq_true]
 exact .inr ⟨i, xR h, k⟩
structure JX (P : Program) [dI P] (N n0 : Nat) (ops : Array Oper) (m : Nat) (xs : List XI) (σ' : List (Nat × AV)) (H' : List (Nat × Nat × AV)) (O' : List (Nat × Kind)) (n' : Nat) (w0 : World) (g0 : G)
  (L : Array Bool) (a : Act) (w : World) (g : G) (HL : List (Nat × Nat × AV)) (OL : List (Nat × Kind)) (σL : List (Nat × AV)) : Prop where
 inv : dh N n0 w0 g0 ⟨σL, HL, OL, n'⟩ a w g
 slots : ∀ t, (∀ i o, i < m → ops[i]? = some o → o.dst = some t → L.getD i false = true) → lk σL t = lk σ' t
 mem : ∀ id t, t ≤ m → (∀ i x, xs[i]? = some x → de x.W id = true → (L.getD i false = true ↔ i < t)) →
  (∀ off y, d3 (yV xs H' t) id off = some y → d3 HL id off = some y) ∧ (∀ K, dk (yW xs O' t) id = some K → dk OL id = some K)
 free : ∀ i, i < m → L.getD i false = false → ∀ k, uq xs n' i ≤ k → k < uq xs n' (i + 1) → Dn g k
 cl : sF ops L
variable {w0 : World} {g0 : G} {a : Act} {w : World} {g : G}
theorem lg {L : Array Bool} {i j : Nat} (hi : i < L.size) (h : j ≠ i) (d : Bool) : (L.setIfInBounds i true).getD j d = L.getD j d := by
 rw [dQ hi, if_neg h]
theorem zD {L : Array Bool} (hc : sF ops L) {j : Nat} (hj : j < L.size) {q : Oper} (hq : ops[j]? = some q) (hr : ∀ e ∈ q.after.toList, Region.binds .any e = true → L.getD e.on false = true) : sF ops (L.setIfInBounds j true) := by
 intro i o ho hi e he hb
 rw [dQ hj] at hi ⊢
 split
 · rfl
 ·
  split at hi
  ·
   rename_i hij; subst hij
   rw [hq] at ho; obtain rfl := Ke ho
   exact hr e he hb
  · exact hc i o ho hi e he hb
theorem JX.step {m n n' : Nat} {ps : List (List Nat)} {L : Array Bool} {HL : List (Nat × Nat × AV)} {OL : List (Nat × Kind)} {σL : List (Nat × AV)} (hpx : PX P N n0 ops l σ H O n xs σ' H' O' n') (hl : l = ops.toList.take m) (hok : Es ops l = true) (hx : B2 ops xs ps = true)
  (h : JX P N n0 ops m xs σ' H' O' n' w0 g0 L a w g HL OL σL) (hm : m ≤ ops.size) (hs : L.size = ops.size) (hn0 : n0 ≤ n)
  (hbnd : ∀ i o, i < m → ops[i]? = some o → ∀ t ∈ kU ops o, t < N)
  (hdst : ∀ i o, i < m → ops[i]? = some o → ∀ t, o.dst = some t → ∀ i' o', i' < m → ops[i']? = some o' → o'.dst = some t → i' = i)
  {j : Nat} {o : Oper} (hj : j < m) (ho : ops[j]? = some o) (hjL : L.getD j true = false) (hedge : ∀ e ∈ o.after.toList, Region.binds .any e = true → L.getD e.on false = true)
  (hdep : ∀ t ∈ dC ops o, ∀ i o', i < m → ops[i]? = some o' → o'.dst = some t → L.getD i false = true)
  {Q : Exit → Act → World → Prop} {K : Act → World → Prop}
  (hK : ∀ a' w' g' HL' OL' σL', JX P N n0 ops m xs σ' H' O' n' w0 g0 (L.setIfInBounds j true) a' w' g' HL' OL' σL' → K a' w') : wpOp P ops Q j K a w := by
 have hjs : j < L.size := by omega
 have hlj : l[j]? = some o := by rw [hl, List.getElem?_take]; simp [hj]; exact ho
 have hlen : xs.length = m := by rw [hpx.len, hl]; simp; omega
 obtain ⟨x, σk, σk1, hxj, one, huse0, hdst0⟩ := hpx.at hok j o hlj
 have huse : ∀ t ∈ dC ops o, lk σL t = lk σk t := fun t ht => by rw [← huse0 t ht]; exact h.slots t (hdep t ht)
 have hjf : L.getD j false = false := by rw [el hjs false true]; exact hjL
 have hbefore : ∀ i y, xs[i]? = some y → i < j → qR y x = true → L.getD i false = true := fun i y hy hij hc =>
  tc h.cl ho hedge (xT hx hy hxj hij hc)
 have hafter : ∀ i y, xs[i]? = some y → j < i → qR x y = true → L.getD i false = false := fun i y hy hij hc => by
  cases hh : L.getD i false with
  | false => rfl
  | true =>
   exfalso
   have hi : i < ops.size := by have := (List.getElem?_eq_some_iff.1 hy).1; omega
   have := tc h.cl (Array.getElem?_eq_getElem hi) (h.cl i _ (Array.getElem?_eq_getElem hi) hh) (xT hx hxj hy hij hc)
   rw [hjf] at this; cases this
 have hlook : ∀ id, (de x.R id = true ∨ de x.W id = true) → (∀ off y, d3 (yV xs H' j) id off = some y → d3 HL id off = some y) ∧ (∀ K, dk (yW xs O' j) id = some K → dk OL id = some K) := fun id hid =>
  h.mem id j (by omega) fun i y hy hw => by
   constructor
   ·
    intro hL
    rcases Nat.lt_trichotomy i j with h1 | h1 | h1
    · exact h1
    · subst h1; rw [hjf] at hL; cases hL
    ·
     have : L.getD i false = false := hafter i y hy h1 (by
      rcases hid with hid | hid
      · exact E7 hid hw
      · exact rR hid (.inr hw))
     rw [hL] at this; cases this
   ·
    intro h1
    exact hbefore i y hy h1 (rR hw hid)
 have hslots' : ∀ v, (∀ d, o.dst = some d → v = lk σ' d) → ∀ t, (∀ i o, i < m → ops[i]? = some o → o.dst = some t → (L.setIfInBounds j true).getD i false = true) → lk (lm o.dst v σL) t = lk σ' t := by
  intro v hv t ht
  have hold : o.dst ≠ some t → lk σL t = lk σ' t := fun hne => h.slots t fun i o' hi ho' hd' => by
   have := ht i o' hi ho' hd'
   rw [dQ hjs] at this
   split at this
   ·
    rename_i hij; subst hij
    rw [ho] at ho'; obtain rfl := Ke ho'
    exact absurd hd' hne
   · exact this
  cases hd : o.dst with
  | none => exact hold (by rw [hd]; simp)
  | some d =>
   simp only [lm, lk]
   by_cases hb : Nat.beq d t = true
   ·
    have e : d = t := by simpa using hb
    subst e
    rw [if_pos hb]; exact hv d hd
   ·
    rw [if_neg hb]
    exact hold (by rw [hd]; intro e; exact hb (by simp [Ke e]))
 have hmemv : de x.W = (fun _ => false) → ∀ HL' OL', (∀ i off, d3 HL' i off = d3 HL i off) → (∀ i, dk OL' i = dk OL i) → ∀ id t, t ≤ m → (∀ i y, xs[i]? = some y → de y.W id = true → ((L.setIfInBounds j true).getD i false = true ↔ i < t)) →
   (∀ off y, d3 (yV xs H' t) id off = some y → d3 HL' id off = some y) ∧ (∀ K, dk (yW xs O' t) id = some K → dk OL' id = some K) := by
  intro hW HL' OL' e1 e2 id t ht hc
  have := h.mem id t ht fun i y hy hw => by
   have hne : i ≠ j := fun e => by subst e; rw [hxj] at hy; obtain rfl := Ke hy; rw [hW] at hw; cases hw
   rw [← hc i y hy hw, lg hjs hne]
  exact ⟨fun off y hy => by rw [e1]; exact this.1 off y hy, fun K hK => by rw [e2]; exact this.2 K hK⟩
 have hfreev : ∀ i, i < m → (L.setIfInBounds j true).getD i false = false → i ≠ j ∧ L.getD i false = false := fun i hi hh => by
  rw [dQ hjs] at hh
  split at hh
  · cases hh
  · exact ⟨by assumption, hh⟩
 have hcl := zD h.cl hjs ho hedge
 have hwant : ∀ b, bH ops σk o.guard = some b → Region.wanted o (yielded ops a.tmps) = b := fun b hb =>
  qg (σ' := σk) h.inv (fun t ht => ⟨huse t (by simp [dC, ht]), hbnd j o hj ho t ht⟩) hb
 simp only [wpOp, ho]
 generalize hHk : yV xs H' j = Hk at *
 generalize hOk : yW xs O' j = Ok at *
 generalize hnk : uq xs n' j = nk at *
 generalize hHk1 : yV xs H' (j + 1) = Hk1 at *
 generalize hOk1 : yW xs O' (j + 1) = Ok1 at *
 generalize hnk1 : uq xs n' (j + 1) = nk1 at *
 have hweak : ∀ R : List Nat, (∀ id, de R id = true → de x.R id = true) → ∀ t, (∃ v, lk (ci o σk) t = v ∧ bU w g v (a.tmps.getD t undef)) := fun _ _ t => by
  refine ⟨_, rfl, ?_⟩
  rcases yf σk (s9 o) t with e | ⟨h1, e⟩
  · unfold ci; rw [e]; trivial
  · unfold ci; rw [e, ← huse t (by simp [dC, h1])]; exact h.inv.slots t
 cases one with
 | @val d v R hd hN hg hs1 =>
  rw [if_pos (hwant true hg)]
  refine .inl ?_
  have hinv : dh N n0 w0 g0 ⟨ci o σk, rH R Hk, rO R Ok, n'⟩ a w g := { h.inv with
   slots := fun t => by obtain ⟨v, e, r⟩ := hweak [] (fun _ h => by simp [de, ej] at h) t; subst e; exact r
   cells := fun id off y hy => by
    have hi := kJ hy
    rw [ws hi] at hy
    exact h.inv.cells id off y ((hlook id (.inl hi)).1 off y hy)
   owns := fun id K hy => by
    have hi := kI hy
    rw [wc hi] at hy
    exact h.inv.owns id K ((hlook id (.inl hi)).2 K hy) }
  have hwp : o.wp P a w (fun a' w' => ∃ u top', a' = a.put o.dst u ∧ bU w' { g with top := top' } v u ∧ PF w g.top w' top') Q := hs1 n' w0 g0 a w g hinv Q
  refine Oper.wp_mono ?_ hwp
  rintro a' w' ⟨u, top', rfl, hr, hp⟩
  obtain ⟨hi', _⟩ := h.inv.called hp
  have hput := hi'.put hr (d := o.dst) (by rw [hd]; simpa [uw] using hN)
  have e0 : (St.put ⟨σL, HL, OL, n'⟩ o.dst v) = ⟨lm o.dst v σL, HL, OL, n'⟩ := by cases o.dst <;> rfl
  rw [e0] at hput
  refine hK _ _ { g with top := top' } HL OL _ ⟨hput, hslots' v (fun d' hd' => ?_), hmemv (by funext i; rfl) HL OL (fun _ _ => rfl) (fun _ => rfl), fun i hi hh k hk1 hk2 => h.free i hi (hfreev i hi hh).2 k hk1 hk2, hcl⟩
  rw [hdst0 d' hd']
  rw [hd] at hd'; obtain rfl := Ke hd'
  simp [lk]
 | @no d hd hN hg =>
  rw [if_neg (by rw [hwant false hg]; simp)]
  have hput := h.inv.put (d := o.dst) lD (by rw [hd]; simpa [uw] using hN)
  have e0 : (St.put ⟨σL, HL, OL, n'⟩ o.dst (.tup [])) = ⟨lm o.dst (.tup []) σL, HL, OL, n'⟩ := by cases o.dst <;> rfl
  rw [e0] at hput
  refine hK _ _ g HL OL _ ⟨hput, hslots' (.tup []) (fun d' hd' => ?_), hmemv (by funext i; rfl) HL OL (fun _ _ => rfl) (fun _ => rfl), fun i hi hh k hk1 hk2 => h.free i hi (hfreev i hi hh).2 k hk1 hk2, hcl⟩
  rw [hdst0 d' hd']
  rw [hd] at hd'; obtain rfl := Ke hd'
  simp [lk]
 | @eff v n1' H1' O1' R hd hg hs1 hRn hn1 hk1 hk2 hS hHI hOI =>
  have hRlt : ∀ i, (ej R i).isSome = true → i < nk := fun i hi => mT hRn hi
  have hnF : nk1 ≤ n' := by
   have h1 : ∀ t, uq xs n' t ≤ n' := by
    intro t
    by_cases ht : t < xs.length
    ·
     have : ∀ d t, t + d = xs.length → uq xs n' t ≤ n' := by
      intro d
      induction d with
      | zero => intro t e; simp only [uq]; rw [List.getElem?_eq_none (by omega)]; exact Nat.le_refl _
      | succ d ih => intro t e; exact Nat.le_trans (hpx.nmono.1 t) (ih (t + 1) (by omega))
     exact this (xs.length - t) t (by omega)
    · simp only [uq]; rw [List.getElem?_eq_none (by omega)]; exact Nat.le_refl _
   rw [← hnk1]; exact h1 _
  have hnk0 : n ≤ nk := by
   have : ∀ t, n ≤ uq xs n' t := by
    intro t
    induction t with
    | zero => rw [hpx.zero.2.2]; exact Nat.le_refl _
    | succ t ih => exact Nat.le_trans ih (hpx.nmono.1 t)
   rw [← hnk]; exact this j
  have hfr : ∀ k, nk ≤ k → k < nk1 → Dn g k := fun k h1 h2 => h.free j hj hjf k (by rw [hnk]; exact h1) (by rw [hnk1]; exact h2)
  have hinv : dh N nk w (only g R) ⟨ci o σk, rH R Hk, rO R Ok, nk⟩ a w (only g R) := {
   defers := h.inv.defers
   size := h.inv.size
   slots := fun t => by
    obtain ⟨v, e, r⟩ := hweak [] (fun _ h => by simp [de, ej] at h) t
    subst e; exact bU.only R _ _ hS.lk r
   cells := fun id off y hy => by
    have hi := kJ hy
    have hin := hHI.lk hy
    rw [ws hi] at hy
    obtain ⟨b, c, e, hb, hw, v, hv, r⟩ := h.inv.cells id off y ((hlook id (.inl hi)).1 off y hy)
    exact ⟨b, c, e, by simp [only, hi, hb], hw, v, hv, bU.only R _ _ hin r⟩
   owns := fun id K hy => by
    have hi := kI hy
    have hin := hOI.lk hy
    rw [wc hi] at hy
    exact Kind.only (h.inv.owns id K ((hlook id (.inl hi)).2 K hy)) hin hi
   wf := ED h.inv.wf hRlt
   frame := gx.refl _ _ _
   nle := Nat.le_refl _
   laid := h.inv.laidNow.owner fun b hb => by simp [only, hb] }
  have hwl := hs1 w (only g R) a w (only g R) hinv
  rw [if_pos (hwant true hg)]
  refine .inl ?_
  unfold wpList at hwl
  rw [if_pos (by rfl)] at hwl
  have hnoL : ¬ LetsOut (bY.at N nk w (only g R) (fun e s' => e = .normal ∧ s' = ⟨lm o.dst v (ci o σk), H1', O1', nk1⟩)) := by
   rintro ⟨a', w', s', g', ⟨e, _⟩, _⟩; cases e
  have hwp : o.wp P a w (wpList P ops (bY.at N nk w (only g R) (fun e s' => e = .normal ∧ s' = ⟨lm o.dst v (ci o σk), H1', O1', nk1⟩)) []) (bY.at N nk w (only g R) (fun e s' => e = .normal ∧ s' = ⟨lm o.dst v (ci o σk), H1', O1', nk1⟩)) := by
   rcases hwl with hwl | hwl
   · exact hwl
   · exact absurd hwl.2 hnoL
  refine Oper.wp_mono ?_ (Gj (by rintro c a' w' ⟨s', g', ⟨e, _⟩, _⟩; cases e) hnoL hwp)
  rintro a' w' ⟨⟨s', gc, ⟨_, rfl⟩, hi'⟩, u, hu⟩
  have hw := h.inv.wf
  have hwc : WF gc w' nk1 := hi'.wf
  have hf := hi'.frame
  have hmono := xz hw hRlt hfr hwc hn1 hnF hf
  have hup := Cp hw hRlt hfr hwc hn1 hnF hf
  have hWin : ∀ i, de (R ++ List.range' nk (nk1 - nk)) i = (de R i || (Nat.ble nk i && Nat.blt i nk1)) := fun i => by
   rw [tA, oG, show nk + (nk1 - nk) = nk1 by omega]
  refine hK a' w' (oc g gc R nk nk1) (uJ (R ++ List.range' nk (nk1 - nk)) H1' HL) (uA (R ++ List.range' nk (nk1 - nk)) O1' OL) (lm o.dst v σL) ⟨?_, hslots' v (fun d' hd' => ?_), ?_, ?_, hcl⟩
  · exact {
    defers := hi'.defers
    size := hi'.size
    slots := fun t => by
     have hold : o.dst ≠ some t → bU w' (oc g gc R nk nk1) (lk σL t) (a'.tmps.getD t undef) := fun hne => by
      have e : a'.tmps.getD t undef = a.tmps.getD t undef := by
       rw [hu]
       cases hd' : o.dst with
       | none => rfl
       | some d =>
        simp only [Act.put]
        have : d ≠ t := fun e => hne (by rw [hd', e])
        rw [Array.getD_eq_getD_getElem?, Array.getD_eq_getD_getElem?, Array.getElem?_setIfInBounds, if_neg this]
      rw [e]; exact (h.inv.slots t).mono _ _ hmono
     show bU w' _ (lk (lm o.dst v σL) t) _
     cases hd' : o.dst with
     | none => rw [hd'] at hold; exact hold (by simp)
     | some d =>
      simp only [lm, lk]
      by_cases hb : Nat.beq d t = true
      ·
       rw [if_pos hb]
       have e : d = t := by simpa using hb
       subst e
       have := hi'.slots d
       rw [hd'] at this
       simp only [lm, lk, Nat.beq_refl, if_true] at this
       exact this.mono _ _ hup
      ·
       rw [if_neg hb]
       exact hold (by rw [hd']; intro e; exact hb (by simp [Ke e]))
    cells := fun i p y hy => by
     simp only [uJ] at hy
     rw [v6] at hy
     cases h1 : d3 H1' i p with
     | some z =>
      simp only [h1, Option.some.injEq] at hy
      subst hy
      obtain ⟨b, c, e, hb, hw1, v1, hv1, r⟩ := hi'.cells i p _ h1
      exact ⟨b, c, e, hup.blk _ _ hb, hw1, v1, hv1, r.mono _ _ hup⟩
     | none =>
      simp only [h1] at hy
      obtain ⟨hy, hd1⟩ := lS hy
      obtain ⟨b, c, e, hb, hw1, v1, hv1, r⟩ := h.inv.cells i p y hy
      have hout : de (R ++ List.range' nk (nk1 - nk)) i = false := by unfold de; rw [hd1]; rfl
      have hR0 : (ej R i).isSome = false := by
       rw [hWin] at hout; simp only [Bool.or_eq_false_iff] at hout; exact hout.1
      obtain ⟨_, _, q3, _⟩ := sK hw hRlt hfr hwc hn1 hnF hf (hw.blkOwner i b hb).1 hR0
      exact ⟨b, c, e, hmono.blk _ _ hb, by rw [q3]; exact hw1, v1, hv1, r.mono _ _ hmono⟩
    owns := fun i K hy => by
     simp only [uA] at hy
     rw [vM] at hy
     cases h1 : dk O1' i with
     | some z =>
      simp only [h1, Option.some.injEq] at hy
      subst hy
      exact Cu hw hRlt hfr hwc hn1 hnF hf (hi'.owns i _ h1)
     | none =>
      simp only [h1] at hy
      obtain ⟨hy, hd1⟩ := iK hy
      have hout : de (R ++ List.range' nk (nk1 - nk)) i = false := by unfold de; rw [hd1]; rfl
      have hR0 : (ej R i).isSome = false := by
       rw [hWin] at hout; simp only [Bool.or_eq_false_iff] at hout; exact hout.1
      exact Dy hw hRlt hfr hwc hn1 hnF hf (h.inv.owns i K hy) hR0
    wf := GZ hw hRlt hfr hwc hn1 hnF hf
    frame := B0 hw hRlt hfr hwc hn1 hnF hf h.inv.frame (by omega)
    nle := h.inv.nle
    laid := h.inv.laid }
  · rw [hdst0 d' hd', hd']; simp [lm, lk]
  ·
   intro id t ht hc
   cases hW : de (R ++ List.range' nk (nk1 - nk)) id with
   | false =>
    have := h.mem id t ht fun i y hy hw2 => by
     have hne : i ≠ j := fun e => by subst e; rw [hxj] at hy; obtain rfl := Ke hy; rw [hW] at hw2; cases hw2
     rw [← hc i y hy hw2, lg hjs hne]
    exact ⟨fun off y hy => by rw [yl hk1 hW]; exact this.1 off y hy, fun K hK => by rw [xK hk2 hW]; exact this.2 K hK⟩
   | true =>
    have hjt : j < t := (hc j _ hxj hW).1 (by rw [dQ hjs]; simp)
    have hno : ∀ i y, xs[i]? = some y → j < i → i < t → de y.W id = false := fun i y hy h1 h2 => by
     cases hw2 : de y.W id with
     | false => rfl
     | true =>
      exfalso
      have h3 := (hc i y hy hw2).2 h2
      rw [lg hjs (by omega)] at h3
      have h4 : L.getD i false = false := hafter i y hy h1 (rR hW (.inr hw2))
      rw [h3] at h4; cases h4
    have hsame : ∀ d, j + 1 + d ≤ t → (∀ off, d3 (yV xs H' (j + 1 + d)) id off = d3 (yV xs H' (j + 1)) id off) ∧ dk (yW xs O' (j + 1 + d)) id = dk (yW xs O' (j + 1)) id := by
     intro d
     induction d with
     | zero => intro _; exact ⟨fun _ => rfl, rfl⟩
     | succ d ih =>
      intro hd2
      have ih2 := ih (by omega)
      have hi : j + 1 + d < m := by omega
      have hli : l[j + 1 + d]? = some (ops[j + 1 + d]'(by omega)) := by
       rw [hl, List.getElem?_take]; simp [hi]
      obtain ⟨y, s1, s2, hy, one2, _⟩ := hpx.at hok (j + 1 + d) _ hli
      have := one2.facts.2.2.2.2.2.1 id (hno _ y hy (by omega) (by omega))
      exact ⟨fun off => (this.1 off).trans (ih2.1 off), this.2.trans ih2.2⟩
    have hs := hsame (t - (j + 1)) (by omega)
    rw [show j + 1 + (t - (j + 1)) = t by omega, hHk1, hOk1] at hs
    refine ⟨fun off y hy => ?_, fun K hK => ?_⟩
    ·
     rw [hs.1 off, A3 hW] at hy
     rw [A3 hW]; exact hy
    ·
     rw [hs.2, Ak hW] at hK
     rw [Ak hW]; exact hK
  ·
   intro i hi hh k hk3 hk4
   obtain ⟨hne, hLi⟩ := hfreev i hi hh
   have hF := h.free i hi hLi k hk3 hk4
   have hnm := hpx.nmono.1
   have hle : ∀ d t, uq xs n' t ≤ uq xs n' (t + d) := by
    intro d
    induction d with
    | zero => intro t; exact Nat.le_refl _
    | succ d ih => intro t; exact Nat.le_trans (ih t) (hnm (t + d))
   obtain ⟨y, s1, s2, hy, one2, _⟩ := hpx.at hok i _ (show l[i]? = some (ops[i]'(by omega)) by rw [hl, List.getElem?_take]; simp [hi])
   have hWk : de y.W k = true := one2.facts.2.2.2.2.2.2.1 k hk3 hk4
   refine C0 hw hRlt hfr hwc hn1 hnF hf hF ?_ ?_
   ·
    rintro ⟨h1, h2⟩
    rcases Nat.lt_or_gt_of_ne hne with h3 | h3
    ·
     have := hle (j - (i + 1)) (i + 1)
     rw [show i + 1 + (j - (i + 1)) = j by omega, hnk] at this
     omega
    ·
     have := hle (i - (j + 1)) (j + 1)
     rw [show j + 1 + (i - (j + 1)) = i by omega, hnk1] at this
     omega
   ·
    cases hkR : (ej R k).isSome with
    | false => rfl
    | true =>
     exfalso
     rcases Nat.lt_or_gt_of_ne hne with h3 | h3
     ·
      have := hbefore i y hy h3 (rR hWk (.inl hkR))
      rw [hLi] at this; cases this
     ·
      have h5 := hRlt k hkR
      have := hle (i - j) j
      rw [show j + (i - j) = i by omega, hnk] at this
      omega
end
end Go.Pv
namespace Go.Pv
open Go.RowKit (Below)
set_option linter.unusedSimpArgs false
set_option linter.unusedSectionVars false
set_option linter.unusedVariables false
section
variable {P : Program} [dI P] {N n0 : Nat} {ops : Array Oper} {σ σ' : List (Nat × AV)} {H H' : List (Nat × Nat × AV)} {O O' : List (Nat × Kind)} {n n' : Nat} {xs : List XI} {w0 : World} {g0 : G}
theorem u0 : ∀ {l : List Oper}, Es ops l = true → ∀ (i j : Nat) (o o' : Oper) (t : Nat), l[i]? = some o → l[j]? = some o' → o.dst = some t → o'.dst = some t → i = j
 | [], _, i, _, _, _, _, h, _, _, _ => by simp at h
 | q :: l, h, i, j, o, o', t, hi, hj, ho, ho' => by
  cases i with
  | zero =>
   simp at hi; subst hi
   cases j with
   | zero => rfl
   | succ j =>
    have hm : o' ∈ l := List.mem_of_getElem? (by simpa using hj)
    exact absurd ho' ((pS h).2.2 t (.inl ho) o' hm)
  | succ i =>
   have hm : o ∈ l := List.mem_of_getElem? (by simpa using hi)
   cases j with
   | zero =>
    simp at hj; subst hj
    exact absurd ho ((pS h).2.2 t (.inl ho') o hm)
   | succ j => rw [u0 (pS h).1 i j o o' t (by simpa using hi) (by simpa using hj) ho ho']
theorem GK {m : Nat} {ps : List (List Nat)} {Q : bY} (hm : m ≤ ops.size) (h1 : mq ops m = true) (h2 : gS ops m = true) (h3 : gQ ops = true) (h4 : wq N ops m = true) (hok : Es ops (ops.toList.take m) = true)
  (hx : B2 ops xs ps = true) (hn0 : n0 ≤ n) (hpx : PX P N n0 ops (ops.toList.take m) σ H O n xs σ' H' O' n') (k : aM P N n0 ops (ops.toList.drop m) Q ⟨σ', H', O', n'⟩) :
  ∀ (fuel : Nat) (L : Array Bool) (a : Act) (w : World) (g : G) (HL : List (Nat × Nat × AV)) (OL : List (Nat × Kind)) (σL : List (Nat × AV)), JX P N n0 ops m xs σ' H' O' n' w0 g0 L a w g HL OL σL → L.size = ops.size →
   (∀ i, m ≤ i → i < ops.size → L.getD i true = false) → jA m L + (ops.size - m) ≤ fuel → wpAny P .any ops (Q.at N n0 w0 g0) fuel L a w := by
 have hget : ∀ i, i < m → (ops.toList.take m)[i]? = ops[i]? := fun i hi => by rw [List.getElem?_take]; simp [hi]
 have hxl : xs.length = m := by rw [hpx.len]; simp; omega
 have hdone : ∀ (fuel : Nat) (L : Array Bool) (a : Act) (w : World) (g : G) (HL : List (Nat × Nat × AV)) (OL : List (Nat × Kind)) (σL : List (Nat × AV)), JX P N n0 ops m xs σ' H' O' n' w0 g0 L a w g HL OL σL → L.size = ops.size →
   (∀ i, m ≤ i → i < ops.size → L.getD i true = false) → (∀ i, i < m → L.getD i true = true) → ops.size - m ≤ fuel → wpAny P .any ops (Q.at N n0 w0 g0) fuel L a w := by
  intro fuel L a w g HL OL σL hJ hs hp hd hf
  have hmem := fun id => hJ.mem id m (Nat.le_refl _) fun i y hy _ => by
   have hi : i < m := by have := (List.getElem?_eq_some_iff.1 hy).1; omega
   rw [el (by omega) false true, hd i hi]; simp [hi]
  have e1 : yV xs H' m = H' := by simp only [yV]; rw [List.getElem?_eq_none (by omega)]
  have e2 : yW xs O' m = O' := by simp only [yW]; rw [List.getElem?_eq_none (by omega)]
  refine yj h2 h3 fuel m L a w (Nat.le_refl _) hm hs (fun i hi => ?_) hf (k w0 g0 a w g { hJ.inv with
   slots := fun t => ?_
   cells := fun id off x hx => ?_
   owns := fun id K hx => ?_ })
  ·
   by_cases him : i < m
   · rw [hd i him]; simp [him]
   · rw [hp i (by omega) hi]; simp [him]
  ·
   show bU w g (lk σ' t) _
   rw [← hJ.slots t fun i o hi _ _ => by rw [el (by omega) false true]; exact hd i hi]
   exact hJ.inv.slots t
  · exact hJ.inv.cells id off x ((hmem id).1 off x (by rw [e1]; exact hx))
  · exact hJ.inv.owns id K ((hmem id).2 K (by rw [e2]; exact hx))
 intro fuel
 induction fuel with
 | zero =>
  intro L a w g HL OL σL hJ hs hp hf
  refine hdone 0 L a w g HL OL σL hJ hs hp (fun i hi => ?_) (by omega)
  cases hh : L.getD i true with
  | true => rfl
  | false =>
   have : 0 < jA m L := List.length_pos_of_mem (a := i) (List.mem_filter.2 ⟨List.mem_range.2 hi, by simp [hh]⟩)
   omega
 | succ fuel ih =>
  intro L a w g HL OL σL hJ hs hp hf
  by_cases hall : ∃ j, j < m ∧ L.getD j true = false
  ·
   obtain ⟨j, ⟨hj, hjL⟩, hleast⟩ := jt hall
   have hjo : ops[j]? = some (ops[j]'(by omega)) := Array.getElem?_eq_getElem (by omega)
   have hready : j ∈ Region.ready .any ops L := by
    refine sx hjo hjL fun e he hbd => ?_
    have hb := h3
    unfold gQ at hb
    rw [List.all_eq_true] at hb
    have hb2 := hb j (List.mem_range.2 (by omega))
    rw [hjo] at hb2
    simp only at hb2
    rw [← Array.all_toList, List.all_eq_true] at hb2
    have hb3 := hb2 e he
    simp only [hbd, Bool.not_true, Bool.false_or] at hb3
    have hlt : e.on < j := by simpa using hb3
    rw [el (by omega) false true]
    cases hh : L.getD e.on true with
    | true => rfl
    | false => exact absurd (hleast e.on ⟨by omega, hh⟩) (by omega)
   refine ⟨fun h0 => (by rw [h0] at hready; cases hready), fun i hi => ?_⟩
   obtain ⟨o, ho, his, hiL, hedge⟩ := lw hi
   have him : i < m := by
    refine Classical.byContradiction fun hge => ?_
    have hpst := h2
    unfold gS at hpst
    rw [List.all_eq_true] at hpst
    have h8 := hpst i (List.mem_range.2 his)
    rw [ho] at h8
    simp only [Bool.or_eq_true] at h8
    rcases h8 with h8 | h8
    ·
     have : i < m := by simpa using h8
     omega
    ·
     rw [List.all_eq_true] at h8
     have h9 := fY (h8 j (List.mem_range.2 (by omega))) hedge
     rw [el (by omega) false true, hjL] at h9
     cases h9
   refine hJ.step hpx rfl hok hx hm hs hn0 ?_ ?_ him ho hiL hedge ?_ ?_
   ·
    intro i o hi ho t ht
    have hg := h4
    unfold wq at hg
    rw [List.all_eq_true] at hg
    have hg2 := hg i (List.mem_range.2 hi)
    rw [ho] at hg2
    simp only at hg2
    rw [List.all_eq_true] at hg2
    simpa using hg2 t ht
   ·
    intro i o hi ho t ht i' o' hi' ho' ht'
    exact (u0 hok i i' o o' t (by rw [hget i hi]; exact ho) (by rw [hget i' hi']; exact ho') ht ht').symm
   ·
    intro t ht i' o' hi' ho' ht'
    have hd := h1
    unfold mq at hd
    rw [List.all_eq_true] at hd
    have hd2 := hd i (List.mem_range.2 him)
    rw [ho] at hd2
    simp only at hd2
    rw [List.all_eq_true] at hd2
    have hd3 := hd2 i' (List.mem_range.2 hi')
    rw [ho'] at hd3
    simp only [Kd, ht'] at hd3
    rw [if_pos (by rw [List.contains_eq_mem]; simpa using ht)] at hd3
    exact fY hd3 hedge
   ·
    intro a' w' g' HL' OL' σL' hJ'
    refine ih _ a' w' g' HL' OL' σL' hJ' (by simp [hs]) (fun q hq hqs => ?_) ?_
    ·
     rw [dQ (by omega), if_neg (by omega)]
     exact hp q hq hqs
    ·
     have : jA m (L.setIfInBounds i true) + 1 ≤ jA m L := by
      refine ni (j := i) (fun q hq h => ?_) (List.mem_range.2 him) (by simp [hiL]) (by simp [dQ (show i < L.size by omega)])
      rw [dQ (by omega)] at h
      split at h
      · simp at h
      · exact h
     omega
  ·
   refine hdone _ L a w g HL OL σL hJ hs hp (fun i hi => ?_) (by omega)
   cases hh : L.getD i true with
   | true => rfl
   | false => exact absurd ⟨i, hi, hh⟩ hall
def DX (P : Program) [dI P] (N n0 : Nat) (ops : Array Oper) (l : List Oper) (σ : List (Nat × AV)) (H : List (Nat × Nat × AV)) (O : List (Nat × Kind)) (n : Nat) (C : List XI → Prop) (K : St → Prop) : Prop :=
 ∃ xs σ' H' O' n', PX P N n0 ops l σ H O n xs σ' H' O' n' ∧ C xs ∧ K ⟨σ', H', O', n'⟩
theorem oS {k : Nat} {i : Nat} : (Array.replicate k false).getD i false = false := by
 rw [Array.getD_eq_getD_getElem?]
 simp [Array.getElem?_replicate]
 split <;> rfl
theorem Gt {id m : Nat} {l : List Oper} {Q : bY} (ps : List (List Nat)) (hmix : P.follows .mixedOrders = true) (hm : Nat.ble m l.length = true) (h1 : mq l.toArray m = true) (h2 : gS l.toArray m = true) (h3 : gQ l.toArray = true)
  (h4 : wq N l.toArray m = true) (hok : Es l.toArray (l.take m) = true) (k : DX P N n0 l.toArray (l.take m) σ H O n (fun xs => B2 l.toArray xs ps = true) (aM P N n0 l.toArray (l.drop m) Q)) :
  cg P N n0 (.region id l.toArray true) Q ⟨σ, H, O, n⟩ := by
 obtain ⟨xs, σ', H', O', n', hpx, hx, k⟩ := k
 intro w0 g0 a w g hi
 have hle : m ≤ l.length := by simpa using hm
 refine wp_region_any hmix ?_
 have hp : PF w g.top { w with drawn := w.drawn + 1 } g.top := ⟨(Below.refl w.heap.size w).drew, fun _ _ => rfl, hi.wf.topNew⟩
 have hi1 := (hi.called hp).1
 have hnn := hpx.nmono.2
 have hlow : ∀ t, n ≤ uq xs n' t := by
  intro t
  induction t with
  | zero => rw [hpx.zero.2.2]; exact Nat.le_refl _
  | succ t ih => exact Nat.le_trans ih (hpx.nmono.1 t)
 have hpx' : PX P N n0 l.toArray (l.toArray.toList.take m) σ H O n xs σ' H' O' n' := hpx
 have hxl : xs.length = m := by rw [hpx.len]; simp; omega
 refine GK (σ := σ) (H := H) (O := O) (n := n) (by simpa using hle) h1 h2 h3 h4 (by simpa using hok) hx hi.nle hpx' (by simpa using k) _ _ a _ { g with top := g.top } H O σ
  ⟨{ hi1 with
   wf := { hi1.wf with
    blkOwner := fun id b hb => by
     obtain ⟨k1, k2, k3, k4⟩ := hi1.wf.blkOwner id b hb
     exact ⟨k1, k2, k3, Nat.lt_of_lt_of_le k4 hnn⟩
    ownLt := fun id v hv => Nat.lt_of_lt_of_le (hi1.wf.ownLt id v hv) hnn
    idLt := fun b i hb => Nat.lt_of_lt_of_le (hi1.wf.idLt b i hb) hnn }
   nle := Nat.le_trans hi1.nle hnn
   laid := hi1.laid }, ?_, ?_, ?_, ?_⟩ (by simp) ?_ ?_
 ·
  intro t ht
  refine (hpx.lk_same t fun o ho hd => ?_).symm
  obtain ⟨i, hi'⟩ := List.mem_iff_getElem?.1 ho
  rw [List.getElem?_take] at hi'
  split at hi'
  ·
   rename_i him
   have := ht i o him (by simpa using hi') hd
   rw [oS] at this; cases this
  · cases hi'
 ·
  intro id t ht hc
  have hno : ∀ i y, xs[i]? = some y → i < t → de y.W id = false := fun i y hy h1 => by
   cases hw2 : de y.W id with
   | false => rfl
   | true => have := (hc i y hy hw2).2 h1; rw [oS] at this; cases this
  have hsame : ∀ d, d ≤ t → (∀ off, d3 (yV xs H' d) id off = d3 H id off) ∧ dk (yW xs O' d) id = dk O id := by
   intro d
   induction d with
   | zero => intro _; obtain ⟨e1, e2, _⟩ := hpx.zero; exact ⟨fun _ => by rw [e1], by rw [e2]⟩
   | succ d ih =>
    intro hd2
    have ih2 := ih (by omega)
    have hli : (l.take m)[d]? = some (l[d]'(by omega)) := by
     rw [List.getElem?_take]; simp [show d < m by omega]
    obtain ⟨y, s1, s2, hy, one2, _⟩ := hpx.at hok d _ hli
    have := one2.facts.2.2.2.2.2.1 id (hno _ y hy (by omega))
    exact ⟨fun off => (this.1 off).trans (ih2.1 off), this.2.trans ih2.2⟩
  have hs := hsame t (Nat.le_refl _)
  exact ⟨fun off y hy => by rw [hs.1] at hy; exact hy, fun K hK => by rw [hs.2] at hK; exact hK⟩
 ·
  intro i hi' _ k hk1 hk2
  have hk : n ≤ k := Nat.le_trans (hlow i) hk1
  refine ⟨?_, ?_, fun b hb => ?_⟩
  ·
   cases hb : g.blk k with
   | none => rfl
   | some b => have := (hi.wf.blkOwner _ _ hb).2.2.2; simp only at this; omega
  ·
   cases hb : g.own k with
   | none => rfl
   | some b => have := hi.wf.ownLt _ _ hb; simp only at this; omega
  · have := hi.wf.idLt b k hb; simp only at this; omega
 · intro j o _ hj; rw [oS] at hj; cases hj
 ·
  intro i _ his
  rw [Array.getD_eq_getD_getElem?]
  simp at his
  simp [Array.getElem?_replicate, his]
 ·
  have : jA m (Array.replicate l.toArray.size false) ≤ m := by
   unfold jA
   exact Nat.le_trans (List.length_filter_le _ _) (by simp)
  simp at hle ⊢
  simp at this
  omega
end
section
variable {P : Program} [dI P] {N n0 : Nat} {Q : bY} {ops : Array Oper} {rest : List Oper} {σ : List (Nat × AV)} {H H2 : List (Nat × Nat × AV)} {O O2 : List (Nat × Kind)} {n i : Nat}
 {d : Nat} {dst : Option Tmp} {op : Op} {ty : TypeId} {pos : String} {af : Array Edge} {gd : Option (Nat × Bool)} {C : List XI → Prop} {K : St → Prop}
theorem xn (hc : C []) (h : K ⟨σ, H, O, n⟩) : DX P N n0 ops [] σ H O n C K := ⟨[], σ, H, O, n, .nil, hc, h⟩
theorem xS (R : List Nat) {v : AV} (hd : Nat.blt d N = true) (hg : bH ops σ gd = some true) (hs : ∀ m, yQ P N n0 ⟨ci ⟨some d, op, ty, pos, af, gd⟩ σ, rH R H, rO R O, m⟩ ⟨some d, op, ty, pos, af, none⟩ v)
  (k : DX P N n0 ops rest ((d, v) :: σ) H O n (fun xs => C (⟨R, [], H, O, n⟩ :: xs)) K) : DX P N n0 ops (⟨some d, op, ty, pos, af, gd⟩ :: rest) σ H O n C K := by
 obtain ⟨xs, σ', H', O', n', hp, hc, hk⟩ := k
 exact ⟨_, σ', H', O', n', .cons (.val R rfl hd hg hs) hp, hc, hk⟩
theorem xv (R : List Nat) {v : AV} (hd : Nat.blt d N = true) (hg : bH ops σ gd = some true) (hv : ∀ m, HN (oF P ⟨ci ⟨some d, op, ty, pos, af, gd⟩ σ, rH R H, rO R O, m⟩ op) = some v)
  (k : DX P N n0 ops rest ((d, v) :: σ) H O n (fun xs => C (⟨R, [], H, O, n⟩ :: xs)) K) : DX P N n0 ops (⟨some d, op, ty, pos, af, gd⟩ :: rest) σ H O n C K :=
 xS R hd hg (fun m => tW (by have := hv m; rwa [qy] at this)) k
theorem xV (R : List Nat) {v : AV} (hd : Nat.blt d N = true) (hg : bH ops σ gd = some true) (hv : ∀ m, eV P N n0 ⟨ci ⟨some d, op, ty, pos, af, gd⟩ σ, rH R H, rO R O, m⟩ op v)
  (k : DX P N n0 ops rest ((d, v) :: σ) H O n (fun xs => C (⟨R, [], H, O, n⟩ :: xs)) K) : DX P N n0 ops (⟨some d, op, ty, pos, af, gd⟩ :: rest) σ H O n C K :=
 xS R hd hg (fun m => mi fun w0 g0 a w g hi => hv m _ rfl w0 g0 a w g hi) k
theorem Dl {s : St} {t e : TypeId} {x ix : Operand} {j je : TI} {k : IntKind} {iv : Int} {xs : List (List AV)} {r : List AV} (ht : ti P t = some j) (hk : j.k = .slice e) (he : ti P e = some je) (hx : gj s x = .sl xs) (hi : ev s.σ ix = .int k iv)
  (h0 : 0 ≤ iv) (hr : xs[iv.toNat]? = some r) (hw : eB je.size xs) : eV P N n0 s (.indexAddr t x ix) (.rd r) := by
 rintro ⟨dst, op, type, pos, after, guard⟩ rfl w0 g0 a w g hin
 have h1 := dJ hin x
 rw [hx] at h1
 have h2 := bA hin.slots ix
 rw [hi] at h2
 obtain ⟨q, hq, hrq⟩ := qA ht hk he h1 h2 h0 hr hw
 exact ⟨q, bG hq, hrq⟩
theorem jq (hd : Nat.blt d N = true) (hg : bH ops σ gd = some false) (k : DX P N n0 ops rest ((d, .tup []) :: σ) H O n (fun xs => C (⟨[], [], H, O, n⟩ :: xs)) K) : DX P N n0 ops (⟨some d, op, ty, pos, af, gd⟩ :: rest) σ H O n C K := by
 obtain ⟨xs, σ', H', O', n', hp, hc, hk⟩ := k
 exact ⟨_, σ', H', O', n', .cons (.no rfl hd hg) hp, hc, hk⟩
theorem Jw {j e : Nat} {want b : Bool} (hj : fq ops j = some e) (hb : lk σ e = .bool b) (yes : b = true → DX P N n0 ops (⟨dst, op, ty, pos, af, some (j, want)⟩ :: rest) ((e, .bool true) :: σ) H O n C K)
  (no : b = false → DX P N n0 ops (⟨dst, op, ty, pos, af, some (j, want)⟩ :: rest) ((e, .bool false) :: σ) H O n C K) : DX P N n0 ops (⟨dst, op, ty, pos, af, some (j, want)⟩ :: rest) σ H O n C K := by
 cases b with
 | true =>
  obtain ⟨xs, σ', H', O', n', hp, hc, hk⟩ := yes rfl
  exact ⟨xs, σ', H', O', n', .eqv (vS hb) hp, hc, hk⟩
 | false =>
  obtain ⟨xs, σ', H', O', n', hp, hc, hk⟩ := no rfl
  exact ⟨xs, σ', H', O', n', .eqv (vS hb) hp, hc, hk⟩
theorem xc (R : List Nat) {fop : Operand} {args : Array Operand} {ats : Array TypeId} {f : FuncId} {r : AV} (hd : Nat.blt d N = true) (hg : bH ops σ gd = some true)
  (hr : ev (ci ⟨some d, .call ⟨.value fop, args, ats⟩, ty, pos, af, gd⟩ σ) fop = .fn f [])
  (hc : ∀ m, dT 0 (args.toList.map (gj ⟨ci ⟨some d, .call ⟨.value fop, args, ats⟩, ty, pos, af, gd⟩ σ, rH R H, rO R O, m⟩)) = true)
  (call : ∀ m, ai P f (args.toList.map (gj ⟨ci ⟨some d, .call ⟨.value fop, args, ats⟩, ty, pos, af, gd⟩ σ, rH R H, rO R O, m⟩)) (· = r))
  (k : DX P N n0 ops rest ((d, r) :: σ) H O n (fun xs => C (⟨R, [], H, O, n⟩ :: xs)) K) : DX P N n0 ops (⟨some d, .call ⟨.value fop, args, ats⟩, ty, pos, af, gd⟩ :: rest) σ H O n C K :=
 xS R hd hg (fun m => uZ (caps := []) rfl hr (by rw [List.append_nil]; exact hc m) (by rw [List.append_nil]; exact call m)) k
def E3 (R : List Nat) (n n1 : Nat) (H1 : List (Nat × Nat × AV)) (O1 : List (Nat × Kind)) : Bool := pA n R && Nat.ble n n1 && vq (R ++ List.range' n (n1 - n)) H1 && uS (R ++ List.range' n (n1 - n)) O1
theorem xe (R : List Nat) (v : AV) (n1 : Nat) (H1 : List (Nat × Nat × AV)) (O1 : List (Nat × Kind)) (hd : uw N dst = true) (hg : bH ops σ gd = some true)
  (hs : aM P N n ops [⟨dst, op, ty, pos, af, none⟩] (fun e s' => e = .normal ∧ s' = ⟨lm dst v (ci ⟨dst, op, ty, pos, af, gd⟩ σ), H1, O1, n1⟩) ⟨ci ⟨dst, op, ty, pos, af, gd⟩ σ, rH R H, rO R O, n⟩)
  (hc : E3 R n n1 H1 O1 = true) (hS : HG R (ci ⟨dst, op, ty, pos, af, gd⟩ σ)) (hH : HE R (rH R H)) (hO : CG R (rO R O))
  (eH : xy (uJ (R ++ List.range' n (n1 - n)) H1 H) some = some H2) (eO : o0 (uA (R ++ List.range' n (n1 - n)) O1 O) some = some O2)
  (k : DX P N n0 ops rest (lm dst v σ) H2 O2 n1 (fun xs => C (⟨R, R ++ List.range' n (n1 - n), H, O, n⟩ :: xs)) K) : DX P N n0 ops (⟨dst, op, ty, pos, af, gd⟩ :: rest) σ H O n C K := by
 rw [wC] at eH; rw [i8] at eO
 obtain rfl := Ke eH; obtain rfl := Ke eO
 simp only [E3, Bool.and_eq_true, Nat.ble_eq] at hc
 obtain ⟨xs, σ', H', O', n', hp, hc', hk⟩ := k
 exact ⟨_, σ', H', O', n', .cons (.eff R hd hg hs hc.1.1.1 hc.1.1.2 hc.1.2 hc.2 hS hH hO) hp, hc', hk⟩
def E5 (R : List Nat) (σ : List (Nat × AV)) : Bool := σ.all fun e => e.2.inR R
def FH (R : List Nat) (H : List (Nat × Nat × AV)) : Bool := H.all fun e => e.2.2.inR R
def Gn (R : List Nat) (O : List (Nat × Kind)) : Bool := O.all fun e => match e.2 with
 | .row _ _ => true
 | .wr _ xs => so R xs
 | .map ks vs => og R ks && og R vs
 | .sem _ => true
theorem wL {R : List Nat} : ∀ {σ : List (Nat × AV)}, E5 R σ = true → HG R σ
 | [], _ => trivial
 | e :: r, h => by simp only [E5, List.all_cons, Bool.and_eq_true] at h; exact ⟨h.1, wL h.2⟩
theorem wX {R : List Nat} : ∀ {H : List (Nat × Nat × AV)}, FH R H = true → HE R H
 | [], _ => trivial
 | e :: r, h => by simp only [FH, List.all_cons, Bool.and_eq_true] at h; exact ⟨h.1, wX h.2⟩
theorem AB {R : List Nat} : ∀ {O : List (Nat × Kind)}, Gn R O = true → CG R O
 | [], _ => trivial
 | (i, K) :: r, h => by
  simp only [Gn, List.all_cons, Bool.and_eq_true] at h
  refine ⟨?_, AB h.2⟩
  cases K <;> simp only [GH] <;> simp_all
theorem xE (R : List Nat) (v : AV) (n1 : Nat) (H1 : List (Nat × Nat × AV)) (O1 : List (Nat × Kind)) (hd : uw N dst = true) (hg : bH ops σ gd = some true)
  (hs : aM P N n ops [⟨dst, op, ty, pos, af, none⟩] (fun e s' => e = .normal ∧ s' = ⟨lm dst v (ci ⟨dst, op, ty, pos, af, gd⟩ σ), H1, O1, n1⟩) ⟨ci ⟨dst, op, ty, pos, af, gd⟩ σ, rH R H, rO R O, n⟩)
  (hc : (E3 R n n1 H1 O1 && E5 R (ci ⟨dst, op, ty, pos, af, gd⟩ σ) && FH R (rH R H) && Gn R (rO R O)) = true)
  (eH : xy (uJ (R ++ List.range' n (n1 - n)) H1 H) some = some H2) (eO : o0 (uA (R ++ List.range' n (n1 - n)) O1 O) some = some O2)
  (k : DX P N n0 ops rest (lm dst v σ) H2 O2 n1 (fun xs => C (⟨R, R ++ List.range' n (n1 - n), H, O, n⟩ :: xs)) K) : DX P N n0 ops (⟨dst, op, ty, pos, af, gd⟩ :: rest) σ H O n C K := by
 simp only [Bool.and_eq_true] at hc
 exact xe R v n1 H1 O1 hd hg hs hc.1.1.1 (wL hc.1.1.2) (wX hc.1.2) (AB hc.2) eH eO k
end
end Go.Pv
namespace Go.Pv
set_option linter.unusedSectionVars false
set_option linter.unusedVariables false
set_option linter.unusedSimpArgs false
def Ev (p : Nat → Prop) : Prop := ∃ F, ∀ n, F ≤ n → p n
theorem Ev.ge {p : Nat → Prop} (F : Nat) (h : ∀ n, F ≤ n → p n) : Ev p := ⟨F, h⟩
theorem Ev.and {p q : Nat → Prop} (h : Ev p) (k : Ev q) : Ev fun n => p n ∧ q n := by
 obtain ⟨F, h⟩ := h; obtain ⟨G, k⟩ := k
 exact ⟨max F G, fun n hn => ⟨h n (by omega), k n (by omega)⟩⟩
theorem Ev.mono {p q : Nat → Prop} (h : Ev p) (k : ∀ n, p n → q n) : Ev q := by
 obtain ⟨F, h⟩ := h; exact ⟨F, fun n hn => k n (h n hn)⟩
theorem Ev.mono2 {p q r : Nat → Prop} (h : Ev p) (h2 : Ev q) (k : ∀ n, p n → q n → r n) : Ev r := (h.and h2).mono fun n h => k n h.1 h.2
theorem Ev.big {p : Nat → Prop} (F : Nat) (h : Ev p) : Ev fun n => F ≤ n ∧ p n := by
 obtain ⟨G, h⟩ := h; exact ⟨max F G, fun n hn => ⟨by omega, h n (by omega)⟩⟩
theorem Ev.all {α : Type} {p : α → Nat → Prop} : ∀ {l : List α}, (∀ x ∈ l, Ev (p x)) → Ev fun n => ∀ x ∈ l, p x n
 | [], _ => ⟨0, fun _ _ _ h => by cases h⟩
 | x :: l, h => ((h x (by simp)).and (Ev.all (l := l) fun y hy => h y (by simp [hy]))).mono fun n hh y hy => by
  rcases List.mem_cons.1 hy with rfl | hy
  · exact hh.1
  · exact hh.2 y hy
theorem Ev.succ {p : Nat → Prop} (h : Ev fun n => p (n + 1)) : Ev p := by
 obtain ⟨F, h⟩ := h
 refine ⟨F + 1, fun n hn => ?_⟩
 obtain ⟨m, rfl⟩ : ∃ m, n = m + 1 := ⟨n - 1, by omega⟩
 exact h m (by omega)
theorem Ev.get {p : Nat → Prop} (h : Ev p) : ∃ n, p n := by obtain ⟨F, h⟩ := h; exact ⟨F, h F (Nat.le_refl _)⟩
section
variable {α β ε τ : Type}
theorem db {body : ε → Option (ε ⊕ τ)} (st : Nat → ε) : ∀ (m : Nat) {e : τ}, (∀ k, k < m → body (st k) = some (.inl (st (k + 1)))) → body (st m) = some (.inr e) → ∀ n, m < n → bm body n (st 0) = some e
 | 0, e, _, h2, n, hn => by
  obtain ⟨n, rfl⟩ : ∃ k, n = k + 1 := ⟨n - 1, by omega⟩
  simp [bm, h2]
 | m + 1, e, h1, h2, n, hn => by
  obtain ⟨n, rfl⟩ : ∃ k, n = k + 1 := ⟨n - 1, by omega⟩
  have := db (fun k => st (k + 1)) m (e := e) (fun k hk => h1 (k + 1) (by omega)) h2 n (by omega)
  simp only [bm, h1 0 (by omega), Kd]
  exact this
theorem cG {body : ε → Option (ε ⊕ τ)} {s s' : ε} {n : Nat} (h : body s = some (.inl s')) : bm body (n + 1) s = bm body n s' := by simp [bm, h]
theorem bM {body : ε → Option (ε ⊕ τ)} {s : ε} {e : τ} {n : Nat} (h : body s = some (.inr e)) : bm body (n + 1) s = some e := by simp [bm, h]
theorem sW (l : List α) (i : Nat) : gi l (i : Int) = l[i]? := by simp [gi]
theorem bR {l : List α} {i : Nat} (h : i < l.length) : gi l (i : Int) = some l[i] := by rw [sW, List.getElem?_eq_getElem h]
theorem iD {i : Nat} (h : i < 9223372036854775808) : W (i : Int) = i := xO h
theorem dr {i : Nat} (h : i + 1 < 9223372036854775808) : W ((i : Int) + 1) = ((i + 1 : Nat) : Int) := by
 rw [← iD h]; rfl
theorem li {i : Nat} (h : i ≤ maxLen) : i < 9223372036854775808 := by unfold maxLen at h; omega
theorem fM (l : List α) {i j : Nat} (h : i ≤ j) (hj : j ≤ l.length) : kC l (i : Int) (j : Int) = some ((l.take j).drop i) := by
 unfold kC; rw [if_pos ⟨by omega, by omega, by omega⟩]; simp
theorem lI (l : List α) {i : Nat} (h : i ≤ l.length) : kC l (i : Int) (l.length : Int) = some (l.drop i) := by
 rw [fM l h (Nat.le_refl _), List.take_length]
theorem fX {a b : List α} (h : a.length + b.length ≤ vW) : ap a b = some (a ++ b) := by unfold ap; rw [if_pos h]
theorem IW {b r : List α} (h : ap [] b = some r) : b = r := by
 unfold ap at h; split at h
 · simpa using Ke h
 · cases h
def u8 (n : Int) : UInt8 := UInt8.ofNat n.toNat
theorem Fs (x : Int) : IntKind.wrap .u8 x = x % 256 := rfl
def xg (p : α → Bool) (l : List α) : Int := match l.findIdx? p with
 | some i => i
 | none => -1
theorem zb (p : α → Bool) (l : List α) : decide (xg p l ≥ 0) = l.any p := by
 unfold xg
 cases h : l.findIdx? p with
 | some i =>
  have : l.any p = true := by
   rw [List.any_eq_true]
   have h2 := List.findIdx?_eq_some_iff_getElem.1 h
   obtain ⟨h3, h4, _⟩ := h2
   exact ⟨_, List.getElem_mem h3, h4⟩
  rw [this]; simp
 | none =>
  rw [List.findIdx?_eq_none_iff] at h
  have : l.any p = false := by rw [List.any_eq_false]; intro x hx; simpa using h x hx
  rw [this]; rfl
theorem qi {body : ε → Option (ε ⊕ τ)} (I : ε → Prop) (μ : ε → Nat) (J : τ → Prop) (h : ∀ s, I s → ∃ o, body s = some o ∧ (∀ s', o = .inl s' → I s' ∧ μ s' < μ s) ∧ ∀ e, o = .inr e → J e) : ∀ (n : Nat) (s : ε), I s → μ s < n → ∃ e, bm body n s = some e ∧ J e
 | 0, _, _, hn => by omega
 | n + 1, s, hI, hn => by
  obtain ⟨o, ho, h1, h2⟩ := h s hI
  cases o with
  | inl s' =>
   obtain ⟨k1, k2⟩ := h1 s' rfl
   rw [cG ho]; exact qi I μ J h n s' k1 (by omega)
  | inr e => exact ⟨e, bM ho, h2 e rfl⟩
theorem C8 {β : Type} {body : ε → Option (ε ⊕ τ)} {f : τ → Option β} {n : Nat} {s : ε} (I : ε → Prop) (μ : ε → Nat) (J : τ → Prop) (hs : I s) (hn : μ s < n)
  (h : ∀ s, I s → ∃ o, body s = some o ∧ (∀ s', o = .inl s' → I s' ∧ μ s' < μ s) ∧ ∀ e, o = .inr e → J e) (k : ∀ e, J e → ∃ r, f e = some r) : ∃ r, (bm body n s).bind f = some r := by
 obtain ⟨e, he, hJ⟩ := qi I μ J h n s hs hn
 rw [he]; exact k e hJ
theorem A6 {β γ : Type} {o : Option β} {f : β → Option γ} (h : ∃ v, o = some v) (k : ∀ v, o = some v → ∃ r, f v = some r) : ∃ r, o.bind f = some r := by
 obtain ⟨v, hv⟩ := h; rw [hv]; exact k v hv
theorem Ev.ex {β : Type} {p : Nat → Option β} {v : β} (h : Ev fun n => p n = some v) : Ev fun n => ∃ v, p n = some v := h.mono fun n h => ⟨v, h⟩
theorem ju {l : List α} {σ : Type} (st : Nat → σ) {p : α → Bool} {r : Nat → ε} {q : τ} {body : σ → Option (σ ⊕ (τ ⊕ ε))} (hb : ∀ i (h : i < l.length), body (st i) = some (if p l[i] then .inr (.inr (r i)) else .inl (st (i + 1))))
  (he : body (st l.length) = some (.inr (.inl q))) {n : Nat} (hn : l.length < n) : bm body n (st 0) = some (match l.findIdx? p with | some i => .inr (r i) | none => .inl q) := by
 cases h : l.findIdx? p with
 | some i =>
  obtain ⟨h3, h4, h5⟩ := List.findIdx?_eq_some_iff_getElem.1 h
  refine db st i (fun k hk => ?_) ?_ n (by omega)
  · rw [hb k (by omega), if_neg (by simpa using h5 k hk)]
  · rw [hb i h3, if_pos h4]
 | none =>
  rw [List.findIdx?_eq_none_iff] at h
  refine db st l.length (fun k hk => ?_) he n hn
  rw [hb k hk, if_neg (by simpa using h _ (List.getElem_mem hk))]
theorem tm {p : α → Bool} {l : List α} : l.any p = (l.findIdx? p).isSome := by
 rw [Bool.eq_iff_iff]
 constructor
 ·
  intro h
  cases hf : l.findIdx? p with
  | some i => rfl
  | none =>
   rw [List.findIdx?_eq_none_iff] at hf
   obtain ⟨x, hx, hx2⟩ := List.any_eq_true.1 h
   have := hf x hx; simp [hx2] at this
 ·
  intro h
  obtain ⟨i, hi⟩ := Option.isSome_iff_exists.1 h
  obtain ⟨h3, h4, _⟩ := List.findIdx?_eq_some_iff_getElem.1 hi
  exact List.any_eq_true.2 ⟨_, List.getElem_mem h3, h4⟩
theorem pT {l : List α} {p : α → Bool} {body : Int → Option (Int ⊕ (Unit ⊕ Int))} (hb : ∀ i (h : i < l.length), body (i : Int) = some (if p l[i] then .inr (.inr (i : Int)) else .inl (W ((i : Int) + 1))))
  (he : body (l.length : Int) = some (.inr (.inl ()))) (hl : l.length ≤ maxLen) {n : Nat} (hn : l.length < n) : bm body n 0 = some (match l.findIdx? p with | some i => .inr (i : Int) | none => .inl ()) := by
 have hW : ∀ k, k < l.length → W ((k : Int) + 1) = ((k + 1 : Nat) : Int) := fun k hk => dr (by have := li hl; omega)
 cases h : l.findIdx? p with
 | some i =>
  obtain ⟨h3, h4, h5⟩ := List.findIdx?_eq_some_iff_getElem.1 h
  refine db (fun k => (k : Int)) i (fun k hk => ?_) ?_ n (by omega)
  · rw [hb k (by omega), if_neg (by simpa using h5 k hk), hW k (by omega)]
  · rw [hb i h3, if_pos h4]
 | none =>
  rw [List.findIdx?_eq_none_iff] at h
  refine db (fun k => (k : Int)) l.length (fun k hk => ?_) he n hn
  rw [hb k hk, if_neg (by simpa using h _ (List.getElem_mem hk)), hW k hk]
end
def Fc (s : aY) : Prop := s.length ≤ maxLen
def okI (k : IntKind) (n : Int) : Prop := (Lit.int k n).wf = true
def BQ {α : Type} (p : α → Prop) (l : List α) : Prop := l.length ≤ maxLen ∧ ∀ x ∈ l, p x
section
variable {P : Program} [dI P]
theorem wn {n : Nat} {t : TypeId} {i : TI} {cs : List AV} (hi : ti P t = some i) (hk : i.k = .str) (h : kB P n t cs) : ∃ s : aY, cs = [.str (sB s)] ∧ Fc s := by
 obtain ⟨s, rfl, h2⟩ := EC hi hk h
 exact ⟨s.data.toList, rfl, h2⟩
theorem gq {n : Nat} {t : TypeId} {i : TI} {k : IntKind} {cs : List AV} (hi : ti P t = some i) (hk : i.k = .int k) (h : kB P n t cs) : ∃ z, cs = [.int k z] ∧ okI k z := Fr hi hk h
theorem CZ {n : Nat} {t : TypeId} {i : TI} {cs : List AV} (hi : ti P t = some i) (hk : i.k = .bool) (h : kB P n t cs) : ∃ b, cs = [.bool b] ∧ True := by
 obtain ⟨b, h⟩ := CV hi hk h; exact ⟨b, h, trivial⟩
theorem uf {α : Type} {c : α → List AV} {Q : α → Prop} {n : Nat} {t e : TypeId} {i : TI} {cs : List AV} (hi : ti P t = some i) (hk : i.k = .slice e) (hd : ∀ n r, kB P n e r → ∃ a, r = c a ∧ Q a) (h : kB P n t cs) :
  ∃ l : List α, cs = [.sl (l.map c)] ∧ BQ Q l := by
 obtain ⟨xs, rfl, h1, h2⟩ := GV hi hk h
 obtain ⟨l, rfl, h3⟩ := xH hd xs h2
 exact ⟨l, rfl, by simpa using h1, h3⟩
theorem iS {n : Nat} {t : TypeId} {i : TI} {q : Bool} {fs : List (Nat × TypeId)} {cs : List AV} (hi : ti P t = some i) (hk : i.k = .struct q fs) (h : kB P n t cs) : ∃ m, n = m + 1 ∧ EE P (kB P m) fs cs := by
 cases n with
 | zero => cases h
 | succ m => simp only [kB, hi, hk] at h; exact ⟨m, rfl, h⟩
theorem GE {t : TypeId} {i : TI} {q : Bool} {fs : List (Nat × TypeId)} {x : AV} (hi : ti P t = some i) (hk : i.k = .struct q fs) (h : BE P t x) : ∃ n cs, x = .agg cs ∧ kB P n t cs := by
 obtain ⟨n, h⟩ := h; simp only [hi, hk] at h; exact ⟨n, h⟩
theorem zJ {t : TypeId} {i : TI} {x : AV} (hi : ti P t = some i) (hk : ∀ q fs, i.k ≠ .struct q fs) (h : BE P t x) : ∃ n, kB P n t [x] := by
 obtain ⟨n, h⟩ := h; simp only [hi] at h
 exact ⟨n, h⟩
end
end Go.Pv
namespace Go.Pv
open Go.RowKit (Below)
open Go.ChangeShapes Go.WideShapes
set_option linter.unusedSimpArgs false
set_option linter.unusedSectionVars false
set_option linter.unusedVariables false
end Go.Pv
namespace Go.Pv
set_option linter.unusedSectionVars false
set_option linter.unusedVariables false
set_option linter.unusedSimpArgs false
section
variable {α : Type}
def C9 (l : List α) (i : Int) (v : α) : Option (List α) := if 0 ≤ i ∧ i < l.length then some (l.set i.toNat v) else none
def mk (n : Int) (z : α) : Option (List α) := if 0 ≤ n ∧ n ≤ vW then some (List.replicate n.toNat z) else none
theorem JM {l y : List α} {i : Int} {v : α} (h : C9 l i v = some y) : 0 ≤ i ∧ i < l.length ∧ l.set i.toNat v = y := by
 unfold C9 at h; split at h
 · rename_i hc; exact ⟨hc.1, hc.2, Ke h⟩
 · cases h
theorem JE {l y : List α} {i : Int} {v : α} (h : C9 l i v = some y) : ∃ o, gi l i = some o := by
 obtain ⟨h0, h1, _⟩ := JM h
 have : i.toNat < l.length := by omega
 exact ⟨l[i.toNat], by unfold gi; rw [if_pos h0, List.getElem?_eq_getElem this]⟩
theorem JH (c : α → List AV) {l y : List α} {i : Int} {v : α} (h : C9 l i v = some y) : (l.map c).set i.toNat (c v) = y.map c := by
 rw [← (JM h).2.2, List.map_set]
theorem Gu (c : α → List AV) {l : List α} {i : Int} {x : α} (h : gi l i = some x) : i < ((l.map c).length : Int) := by
 rw [List.length_map]; exact JD h
theorem Hj {l : List α} {i : Nat} (v : α) (h : i < l.length) : C9 l (i : Int) v = some (l.set i v) := by
 unfold C9; rw [if_pos ⟨by omega, by omega⟩]; rfl
end
end Go.Pv
namespace Go.Pv
set_option linter.unusedSectionVars false
set_option linter.unusedVariables false
set_option linter.unusedSimpArgs false
section
variable {P : Program} [dI P] {N n0 : Nat} {Q : bY} {ops : Array Oper} {rest : List Oper} {σ : List (Nat × AV)} {H A : List (Nat × Nat × AV)} {O O2 : List (Nat × Kind)} {n i : Nat}
 {d : Nat} {op : Op} {ty : TypeId} {pos : String} {af : Array Edge} {gd : Option (Nat × Bool)} {s : St} {w0 : World} {g0 : G} {a : Act} {w : World} {g : G}
theorem pL {w : World} {g : G} : ∀ vs : List Value, aG w g (vs.map jI) vs
 | [] => rfl
 | v :: vs => ⟨v, vs, rfl, iW v, pL vs⟩
end
end Go.Pv
namespace Go.Pv
end Go.Pv
namespace Go.Pv
section
variable {P : Program} [dI P] {N n0 : Nat} {ops : Array Oper} {rest : List Oper} {σ : List (Nat × AV)} {H H2 : List (Nat × Nat × AV)} {O O2 Or : List (Nat × Kind)} {n i : Nat}
 {dst : Option Nat} {op : Op} {ty : TypeId} {pos : String} {af : Array Edge} {gd : Option (Nat × Bool)} {C : List XI → Prop} {K : St → Prop}
theorem I3 {R : List Nat} : CG R [] := trivial
theorem IZ {R : List Nat} {K : Kind} {r : List (Nat × Kind)} (h : GH R K) (k : CG R r) : CG R ((i, K) :: r) := ⟨h, k⟩
theorem AY {R : List Nat} {z : Nat} {xs : List (List AV)} (h : fo 0 xs = true) : GH R (.wr z xs) := pX R xs h
theorem xW (R : List Nat) (v : AV) (n1 : Nat) (H1 : List (Nat × Nat × AV)) (O1 : List (Nat × Kind)) (hd : uw N dst = true) (hg : bH ops σ gd = some true)
  (hs : aM P N n ops [⟨dst, op, ty, pos, af, none⟩] (fun e s' => e = .normal ∧ s' = ⟨lm dst v (ci ⟨dst, op, ty, pos, af, gd⟩ σ), H1, O1, n1⟩) ⟨ci ⟨dst, op, ty, pos, af, gd⟩ σ, rH R H, rO R O, n⟩)
  (hc : (E3 R n n1 H1 O1 && E5 R (ci ⟨dst, op, ty, pos, af, gd⟩ σ) && FH R (rH R H)) = true) (eR : o0 (rO R O) some = some Or) (hO : CG R Or)
  (eH : xy (uJ (R ++ List.range' n (n1 - n)) H1 H) some = some H2) (eO : o0 (uA (R ++ List.range' n (n1 - n)) O1 O) some = some O2)
  (k : DX P N n0 ops rest (lm dst v σ) H2 O2 n1 (fun xs => C (⟨R, R ++ List.range' n (n1 - n), H, O, n⟩ :: xs)) K) : DX P N n0 ops (⟨dst, op, ty, pos, af, gd⟩ :: rest) σ H O n C K := by
 simp only [Bool.and_eq_true] at hc
 rw [i8] at eR
 exact xe R v n1 H1 O1 hd hg hs hc.1.1 (wL hc.1.2) (wX hc.2) (by rw [Ke eR]; exact hO) eH eO k
omit [dI P] in
theorem py {Q : bY} {O' : List (Nat × Kind)} (h : O = O') (k : aM P N n0 ops rest Q ⟨σ, H, O', n⟩) : aM P N n0 ops rest Q ⟨σ, H, O, n⟩ := h ▸ k
theorem wO {α : Type} {c : α → List AV} {l : List α} {ρ : Nat → Nat} {z : Nat} {O' : List (Nat × Kind)} (hc : ∀ x, dT 0 (c x) = true) (h : O = O') : (i, Kind.wr z ((l.map c).map (gH ρ))) :: O = (i, Kind.wr z (l.map c)) :: O' := by
 rw [lU _ (Fz hc l), h]
theorem sO {e : Nat × Kind} {O' : List (Nat × Kind)} (h : O = O') : e :: O = e :: O' := by rw [h]
end
end Go.Pv
namespace Go.Pv
theorem ve {w : World} {g : G} {t : TypeId} {e : Er} : ∀ {xs : List AV} {vs : List Value}, aG w g (xs ++ [nS t e]) vs → aG w g (xs ++ [.err t e]) vs
 | [], _, ⟨b, l2, h, hb, hr⟩ => ⟨b, l2, h, vO.2 hb, hr⟩
 | _ :: _, _, ⟨b, l2, h, hb, hr⟩ => ⟨b, l2, h, hb, ve hr⟩
theorem zW {P : Program} {f : FuncId} {args xs : List AV} {t : TypeId} {e : Er} (h : ai P f args (· = .tup (xs ++ [nS t e]))) : ai P f args (· = .tup (xs ++ [.err t e])) :=
 ⟨h.1, fun w top vals ht hlay hr => (h.2 w top vals ht hlay hr).mono fun e' w' ⟨v, r, top', h1, h2, h3, h4⟩ => ⟨v, _, top', h1, rfl, by
  subst h2
  obtain ⟨vs, hv, hl⟩ := h3
  exact ⟨vs, hv, ve hl⟩, h4⟩⟩
end Go.Pv
namespace Go.Pv
end Go.Pv
namespace Go.Pv
open Go.RowKit (Below)
open Go.MapKept (IsKey Stamped)
set_option linter.unusedSectionVars false
set_option linter.unusedVariables false
set_option linter.unusedSimpArgs false
structure Cd (K : Type) where
 av : K → AV
 val : K → Value
 d : TypeDesc
 rep : ∀ {w : World} {g : G} {k : K} {v : Value}, bU w g (av k) v ↔ v = val k
 inj : ∀ {a b : K}, val a = val b → a = b
 key : ∀ k, IsKey d (val k)
 one : ∀ k, (av k).lim 0 = true
def bj (k : IntKind) : Cd Int := ⟨fun i => .int k i, fun i => .int k i, .int k, Iff.rfl, fun h => by simpa using h, fun _ => rfl, fun _ => rfl⟩
section
variable {K V : Type} [DecidableEq K]
def mg : List (K × V) → K → Option V
 | [], _ => none
 | p :: r, k => if p.1 = k then some p.2 else mg r k
def iO (l : List (K × V)) (k : K) (x : V) : List (K × V) := if (mg l k).isSome then l.map (fun p => if p.1 = k then (k, x) else p) else l ++ [(k, x)]
def qw (l : List (K × V)) (k : K) : List (K × V) := l.filter (fun p => !decide (p.1 = k))
theorem wE {l : List (K × V)} {k : K} : mg l k = none ↔ ∀ p ∈ l, p.1 ≠ k := by
 induction l with
 | nil => simp [mg]
 | cons p r ih =>
  by_cases h : p.1 = k
  · simp [mg, h]
  · simp [mg, h, ih]
theorem F4 {l : List (K × V)} {k : K} {x : V} (hn : (l.map (·.1)).Nodup) (h : (k, x) ∈ l) : mg l k = some x := by
 induction l with
 | nil => cases h
 | cons p r ih =>
  simp only [List.map_cons, List.nodup_cons] at hn
  rcases List.mem_cons.1 h with rfl | h
  · simp [mg]
  ·
   have hne : p.1 ≠ k := fun e => hn.1 (by rw [e]; exact List.mem_map_of_mem (f := (·.1)) h)
   simp [mg, hne, ih hn.2 h]
theorem Hf {l : List (K × V)} {k : K} {x : V} (h : mg l k = some x) : (k, x) ∈ l := by
 induction l with
 | nil => simp [mg] at h
 | cons p r ih =>
  simp only [mg] at h
  split at h
  · rename_i hp; subst hp; obtain rfl := Ke h; simp
  · exact List.mem_cons_of_mem _ (ih h)
theorem Fb {l : List (K × V)} {k k' : K} {x : V} : mg (iO l k x) k' = if k = k' then some x else mg l k' := by
 have happ : ∀ (l : List (K × V)), mg (l ++ [(k, x)]) k' = (mg l k').or (if k = k' then some x else none) := by
  intro l
  induction l with
  | nil => simp [mg]
  | cons p r ih =>
   simp only [List.cons_append, mg]
   split
   · rfl
   · exact ih
 unfold iO
 split
 ·
  rename_i hs
  by_cases hk : k = k'
  ·
   subst hk
   simp only [if_true]
   clear happ
   induction l with
   | nil => simp [mg] at hs
   | cons p r ih =>
    by_cases hp : p.1 = k
    · simp [mg, hp]
    ·
     simp only [mg, if_neg hp] at hs
     simp [mg, hp, ih hs]
  ·
   simp only [if_neg hk]
   clear hs happ
   induction l with
   | nil => simp [mg]
   | cons p r ih =>
    by_cases hp : p.1 = k
    ·
     have h1 : p.1 ≠ k' := fun e => hk (hp.symm.trans e)
     have h2 : k ≠ k' := hk
     simp only [List.map_cons, if_pos hp, mg, if_neg h1, if_neg h2]; exact ih
    · simp only [List.map_cons, if_neg hp, mg]; rw [ih]
 ·
  rename_i hs
  rw [happ]
  have hn : mg l k = none := by simpa using hs
  by_cases hk : k = k'
  · subst hk; simp [hn]
  · simp [hk]
variable (κ : Cd K) (c : V → AV)
def bO (l : List (K × V)) : Kind := .map (l.map fun p => κ.av p.1) (l.map fun p => c p.2)
def MR (w : World) (g : G) : List (K × V) → List MapEntry → Prop
 | [], [] => True
 | p :: l, e :: es => e.key = κ.val p.1 ∧ bU w g (c p.2) e.val ∧ MR w g l es
 | _, _ => False
variable {κ c}
theorem uc {w : World} {g : G} : ∀ {l : List (K × V)} {es : List MapEntry}, MR κ c w g l es ↔ aG w g (l.map fun p => κ.av p.1) (es.map (·.key)) ∧ aG w g (l.map fun p => c p.2) (es.map (·.val))
 | [], [] => by simp [MR, aG]
 | [], e :: es => by simp [MR, aG]
 | p :: l, [] => by simp [MR, aG]
 | p :: l, e :: es => by
  simp only [MR, List.map_cons, aG, uc (l := l) (es := es)]
  constructor
  ·
   rintro ⟨h1, h2, h3, h4⟩
   exact ⟨⟨_, _, rfl, κ.rep.2 h1, h3⟩, ⟨_, _, rfl, h2, h4⟩⟩
  ·
   rintro ⟨⟨v, vs, e1, h1, h3⟩, ⟨u, us, e2, h2, h4⟩⟩
   obtain ⟨rfl, rfl⟩ := List.cons.inj e1
   obtain ⟨rfl, rfl⟩ := List.cons.inj e2
   exact ⟨κ.rep.1 h1, h2, h3, h4⟩
theorem pO {w : World} {g : G} : ∀ {l : List (K × V)} {es : List MapEntry}, MR κ c w g l es → es.map (·.key) = l.map fun p => κ.val p.1
 | [], [], _ => rfl
 | [], _ :: _, h => h.elim
 | _ :: _, [], h => h.elim
 | p :: l, e :: es, ⟨h1, _, h3⟩ => by simp [h1, pO h3]
theorem w9 {w : World} {g : G} : ∀ {l : List (K × V)} {es : List MapEntry} {e : MapEntry}, MR κ c w g l es → e ∈ es → ∃ p ∈ l, e.key = κ.val p.1 ∧ bU w g (c p.2) e.val
 | [], [], _, _, h => by cases h
 | [], _ :: _, _, h, _ => h.elim
 | _ :: _, [], _, h, _ => h.elim
 | p :: l, x :: es, e, ⟨h1, h2, h3⟩, h => by
  rcases List.mem_cons.1 h with rfl | h
  · exact ⟨p, by simp, h1, h2⟩
  ·
   obtain ⟨q, hq, r⟩ := w9 h3 h
   exact ⟨q, List.mem_cons_of_mem _ hq, r⟩
theorem DL {w : World} {g : G} {k : K} {x : V} {e : MapEntry} (hk : e.key = κ.val k) (hv : bU w g (c x) e.val) : ∀ {l : List (K × V)} {es : List MapEntry}, MR κ c w g l es → MR κ c w g (l ++ [(k, x)]) (es ++ [e])
 | [], [], _ => ⟨hk, hv, trivial⟩
 | [], _ :: _, h => h.elim
 | _ :: _, [], h => h.elim
 | p :: l, y :: es, ⟨h1, h2, h3⟩ => ⟨h1, h2, DL hk hv h3⟩
open Classical in
theorem zq {w : World} {g : G} {k : K} {x : V} {f : MapEntry → MapEntry} (hf : ∀ e, (f e).key = κ.val k ∧ bU w g (c x) (f e).val) : ∀ {l : List (K × V)} {es : List MapEntry}, MR κ c w g l es →
  MR κ c w g (l.map fun p => if p.1 = k then (k, x) else p) (es.map fun e => if e.key = κ.val k then f e else e)
 | [], [], _ => trivial
 | [], _ :: _, h => h.elim
 | _ :: _, [], h => h.elim
 | p :: l, e :: es, ⟨h1, h2, h3⟩ => by
  by_cases hp : p.1 = k
  ·
   have : e.key = κ.val k := by rw [h1, hp]
   simp only [List.map_cons, if_pos hp, if_pos this]
   exact ⟨(hf e).1, (hf e).2, zq hf h3⟩
  ·
   have : ¬ e.key = κ.val k := fun q => hp (κ.inj (h1.symm.trans q))
   simp only [List.map_cons, if_neg hp, if_neg this]
   exact ⟨h1, h2, zq hf h3⟩
open Classical in
theorem Dv {w : World} {g : G} {k : K} : ∀ {l : List (K × V)} {es : List MapEntry}, MR κ c w g l es → MR κ c w g (qw l k) (es.filter fun e => !decide (e.key = κ.val k))
 | [], [], _ => trivial
 | [], _ :: _, h => h.elim
 | _ :: _, [], h => h.elim
 | p :: l, e :: es, ⟨h1, h2, h3⟩ => by
  have ih := Dv (k := k) h3
  by_cases hp : p.1 = k
  ·
   have : e.key = κ.val k := by rw [h1, hp]
   simp only [qw, List.filter_cons, hp, this, decide_true, Bool.not_true, Bool.false_eq_true, if_false]
   exact ih
  ·
   have : ¬ e.key = κ.val k := fun q => hp (κ.inj (h1.symm.trans q))
   simp only [qw, List.filter_cons, hp, this, decide_false, Bool.not_false, if_true]
   exact ⟨h1, h2, ih⟩
theorem Av {w : World} {g : G} {w' : World} {g' : G} (hm : gC w g w' g') {l : List (K × V)} {es : List MapEntry} (h : MR κ c w g l es) : MR κ c w' g' l es :=
 uc.2 ⟨aG.mono _ _ hm (uc.1 h).1, aG.mono _ _ hm (uc.1 h).2⟩
theorem eG {i : Nat} {w : World} {g : G} {l : List (K × V)} : (bO κ c l).holds i w g ↔ ∃ b es clock, g.own i = some (.map (some b)) ∧ g.owner b = some i ∧ g.top b = 0 ∧ w.heap[b]? = some (.map es clock) ∧ Stamped es clock ∧
  ∃ m : List MapEntry, m.Perm es.toList ∧ MR κ c w g l m := by
 simp only [bO, Kind.holds, uc]
theorem Eh {w : World} {g : G} {l : List (K × V)} {m : List MapEntry} {es : Array MapEntry} (hp : m.Perm es.toList) (h : MR κ c w g l m) : ∀ x ∈ es.toList, IsKey κ.d x.key := fun x hx => by
 obtain ⟨p, _, h1, _⟩ := w9 h (hp.mem_iff.2 hx)
 rw [h1]; exact κ.key _
theorem CQ {w : World} {g : G} {l : List (K × V)} {m : List MapEntry} {es : Array MapEntry} {clock : Nat} (hs : Stamped es clock) (hp : m.Perm es.toList) (h : MR κ c w g l m) : (l.map (·.1)).Nodup := by
 have h1 : (m.map (·.key)).Nodup := (hp.map _).nodup_iff.2 hs.2.2
 rw [pO h] at h1
 have : (l.map fun p => κ.val p.1) = (l.map (·.1)).map κ.val := by simp [List.map_map, Function.comp_def]
 rw [this] at h1
 exact (List.pairwise_map.1 h1).imp fun h e => h (congrArg κ.val e)
theorem rG {w : World} {g : G} {l : List (K × V)} {m : List MapEntry} {es : Array MapEntry} {clock : Nat} (hs : Stamped es clock) (hp : m.Perm es.toList) (h : MR κ c w g l m) (k : K) :
  (Instr.findNow κ.d (κ.val k) es.toList 0 = some none ∧ mg l k = none ∧ ∀ x ∈ es.toList, x.key ≠ κ.val k) ∨
  ∃ j e x, Instr.findNow κ.d (κ.val k) es.toList 0 = some (some (j, e.val)) ∧ es[j]? = some e ∧ e.key = κ.val k ∧ mg l k = some x ∧ bU w g (c x) e.val := by
 rcases Go.MapKept.findNow_spec (κ.key k) es.toList 0 (Eh hp h) with ⟨h1, h2⟩ | ⟨j, e, h1, h2, h3⟩
 ·
  refine .inl ⟨h1, wE.2 fun p hp' e => ?_, h2⟩
  have : κ.val k ∈ m.map (·.key) := by rw [pO h]; exact List.mem_map.2 ⟨p, hp', by rw [e]⟩
  obtain ⟨x, hx, hxe⟩ := List.mem_map.1 this
  exact h2 x (hp.mem_iff.1 hx) hxe
 ·
  obtain ⟨p, hp', h4, h5⟩ := w9 h (hp.mem_iff.2 (List.mem_of_getElem? h2))
  obtain rfl : p.1 = k := κ.inj (h4.symm.trans h3)
  exact .inr ⟨j, e, p.2, by simpa using h1, by simpa using h2, h3, F4 (CQ hs hp h) hp', h5⟩
end
section
variable {K V : Type} [DecidableEq K] {κ : Cd K} {c : V → AV}
variable {P : Program} [dI P] {N n0 : Nat} {Q : bY} {s : St} {w0 : World} {g0 : G} {a : Act} {w : World} {g : G} {ops : Array Oper} {o : Oper} {rest : List Oper}
variable {σ : List (Nat × AV)} {H : List (Nat × Nat × AV)} {O O2 : List (Nat × Kind)} {n k : Nat} {ty : TypeId} {pos : String} {af : Array Edge}
def HB : TK → Option TypeDesc
 | .str => some .string
 | .int k => some (.int k)
 | _ => none
omit [dI P] in
theorem fU.desc_key {t : TypeId} {i : TI} {inf : TypeInfo} {d : TypeDesc} {z : Value} (h : fU P t i inf d z) {e : TypeDesc} (hk : HB i.k = some e) : d = e := by
 cases hq : i.k with
 | str => rw [hq] at hk; obtain rfl := Ke hk; exact h.desc_str hq
 | int q => rw [hq] at hk; obtain rfl := Ke hk; exact h.desc_int hq
 | _ => rw [hq] at hk; cases hk
def HM (i : TI) : Option AV :=
 match i.k with
 | .struct _ _ => some (.agg i.zero)
 | .bad => none
 | _ => i.zero.head?
theorem Aj {P : Program} {t : TypeId} {i : TI} {inf : TypeInfo} {d : TypeDesc} {z : Value} (h : fU P t i inf d z) {x : AV} (hx : HM i = some x) {w : World} {g : G} : bU w g x z := by
 have hz := h.zeros
 have hf := h.fit
 unfold HM at hx
 split at hx
 ·
  rename_i q fs hk
  obtain rfl := Ke hx
  rw [hk] at hf
  cases z with
  | agg cs =>
   refine ⟨cs.toList, by simp, ?_⟩
   rw [hz]; exact pL _
  | _ => simp [EQ] at hf
 · cases hx
 ·
  rename_i h1 h2
  have ho : z.oneCell' = true := by
   revert hf
   cases hk : i.k with
   | struct q fs => exact (h1 _ _ hk).elim
   | bad => exact (h2 hk).elim
   | _ => exact fun hf => by simpa [EQ] using hf
  have hc : z.cells.toList = [z] := by
   cases z <;> simp_all [Value.cells, Value.oneCell']
  rw [hz, hc] at hx
  simp only [List.map_cons, List.map_nil, List.head?_cons, Option.some.injEq] at hx
  rw [← hx]
  exact iW z
def Jo (x y : AV) : Prop := x = y ∨ (x = .nilS ∧ y = .sl []) ∨ (x = .nilI ∧ ∃ t, y = .err t none)
def Jg : List AV → List AV → Prop
 | [], [] => True
 | x :: xs, y :: ys => Jo x y ∧ Jg xs ys
 | _, _ => False
def HZ (x y : AV) : Prop := Jo x y ∨ ∃ xs ys, x = .agg xs ∧ y = .agg ys ∧ Jg xs ys
theorem Ar {x y : AV} (h : Jo x y) {w : World} {g : G} {v : Value} (r : bU w g x v) : bU w g y v := by
 rcases h with rfl | ⟨rfl, rfl⟩ | ⟨rfl, t, rfl⟩
 · exact r
 · exact ⟨none, 0, r, Nat.le_refl _, fun _ => rfl, fun ad h => by cases h⟩
 · exact r
theorem Ax {w : World} {g : G} : ∀ {xs ys : List AV} {vs : List Value}, Jg xs ys → aG w g xs vs → aG w g ys vs
 | [], [], _, _, r => r
 | [], _ :: _, _, h, _ => h.elim
 | _ :: _, [], _, h, _ => h.elim
 | x :: xs, y :: ys, _, ⟨h1, h2⟩, ⟨v, vs', e, r1, r2⟩ => ⟨v, vs', e, Ar h1 r1, Ax h2 r2⟩
theorem AM {x y : AV} (h : HZ x y) {w : World} {g : G} {v : Value} (r : bU w g x v) : bU w g y v := by
 rcases h with h | ⟨xs, ys, rfl, rfl, h⟩
 · exact Ar h r
 ·
  obtain ⟨vs, e, r⟩ := r
  exact ⟨vs, e, Ax h r⟩
theorem FG {t kt et : TypeId} {x y : Operand} {b : List (K × V)} {kk : K} {z : V} {j jk je : TI} (ht : ti P t = some j) (hm : j.k = .map kt et) (hkt : ti P kt = some jk) (hkd : HB jk.k = some κ.d) (het : ti P et = some je)
  {zx : AV} (hz : HM je = some zx) (hzl : HZ zx (c z)) (hx : ev s.σ x = .own k) (hO : dk s.O k = some (bO κ c b)) (hy : gj s y = κ.av kk) : eV P N n0 s (.lookup t x y false) (c ((mg b kk).getD z)) := by
 rintro ⟨dst, op, type, pos, after, guard⟩ rfl w0 g0 a w g hin
 obtain ⟨_, _, _, h2⟩ := aV ht
 obtain ⟨_, _, _, h3⟩ := aV hkt
 obtain ⟨_, _, zv, h4⟩ := aV het
 have hd := h2.desc_map hm
 have hkd' := h3.desc_key hkd
 have r1 := bA hin.slots x
 rw [hx] at r1
 have r2 := dJ hin y
 rw [hy] at r2
 have e2 := κ.rep.1 r2
 obtain ⟨bb, es, clock, q1, q2, q3, q4, q5, m, q6, q7⟩ := eG.1 (hin.owns.at hO)
 have e1 : g.own k = some (a.eval x) := r1
 rw [q1] at e1
 have e1 := (Ke e1).symm
 have hu : P.underlying t = some (.map kt et) := by rw [h2.und, hd]
 have huk : P.underlying kt = some κ.d := by rw [h3.und, hkd']
 rcases rG q5 q6 q7 kk with ⟨f1, f2, _⟩ | ⟨jj, e, xx, f1, f2, f3, f4, f5⟩
 ·
  refine ⟨zv, bG ?_, ?_⟩
  · simp [e1, e2, Instr.lookup, run_underlying hu, Go.MapKept.run_getObj_map q4, Go.MapKept.run_checkKey huk (κ.key kk), Go.MapKept.run_findKey huk f1, h4.run_zero, Result.andThen]
  ·
   rw [f2, Option.getD_none]
   exact AM hzl (Aj h4 hz)
 ·
  refine ⟨e.val, bG ?_, ?_⟩
  · simp [e1, e2, Instr.lookup, run_underlying hu, Go.MapKept.run_getObj_map q4, Go.MapKept.run_checkKey huk (κ.key kk), Go.MapKept.run_findKey huk f1, Result.andThen]
  ·
   rw [f4, Option.getD_some]
   exact f5
theorem Bw {t kt et : TypeId} {x y : Operand} {b : List (K × V)} {kk : K} {z : V} {j jk je : TI} (ht : ti P t = some j) (hm : j.k = .map kt et) (hkt : ti P kt = some jk) (hkd : HB jk.k = some κ.d) (het : ti P et = some je)
  {zx : AV} (hz : HM je = some zx) (hzl : HZ zx (c z)) (hx : ev s.σ x = .own k) (hO : dk s.O k = some (bO κ c b)) (hy : gj s y = κ.av kk) : eV P N n0 s (.lookup t x y true) (.tup [c ((mg b kk).getD z), .bool (mg b kk).isSome]) := by
 rintro ⟨dst, op, type, pos, after, guard⟩ rfl w0 g0 a w g hin
 obtain ⟨_, _, _, h2⟩ := aV ht
 obtain ⟨_, _, _, h3⟩ := aV hkt
 obtain ⟨_, _, zv, h4⟩ := aV het
 have hd := h2.desc_map hm
 have hkd' := h3.desc_key hkd
 have r1 := bA hin.slots x
 rw [hx] at r1
 have r2 := dJ hin y
 rw [hy] at r2
 have e2 := κ.rep.1 r2
 obtain ⟨bb, es, clock, q1, q2, q3, q4, q5, m, q6, q7⟩ := eG.1 (hin.owns.at hO)
 have e1 : g.own k = some (a.eval x) := r1
 rw [q1] at e1
 have e1 := (Ke e1).symm
 have hu : P.underlying t = some (.map kt et) := by rw [h2.und, hd]
 have huk : P.underlying kt = some κ.d := by rw [h3.und, hkd']
 rcases rG q5 q6 q7 kk with ⟨f1, f2, _⟩ | ⟨jj, e, xx, f1, f2, f3, f4, f5⟩
 ·
  refine ⟨.tuple #[zv, .bool false], bG ?_, [zv, .bool false], rfl, zv, [.bool false], rfl, ?_, .bool false, [], rfl, ?_, rfl⟩
  · simp [e1, e2, Instr.lookup, run_underlying hu, Go.MapKept.run_getObj_map q4, Go.MapKept.run_checkKey huk (κ.key kk), Go.MapKept.run_findKey huk f1, h4.run_zero, Result.andThen]
  ·
   rw [f2, Option.getD_none]
   exact AM hzl (Aj h4 hz)
  · rw [f2]; rfl
 ·
  refine ⟨.tuple #[e.val, .bool true], bG ?_, [e.val, .bool true], rfl, e.val, [.bool true], rfl, ?_, .bool true, [], rfl, ?_, rfl⟩
  · simp [e1, e2, Instr.lookup, run_underlying hu, Go.MapKept.run_getObj_map q4, Go.MapKept.run_checkKey huk (κ.key kk), Go.MapKept.run_findKey huk f1, Result.andThen]
  ·
   rw [f4, Option.getD_some]
   exact f5
  · rw [f4]; rfl
omit [dI P] in
theorem dh.setMap (hin : dh N n0 w0 g0 s a w g) {b clock : Nat} {es : Array MapEntry} (l' : List (K × V)) {K0 : Kind} (hO : dk s.O k = some K0) (q1 : g.own k = some (.map (some b))) (q2 : g.owner b = some k) (q3 : g.top b = 0) (hb : b < w.heap.size)
  (hs : Stamped es clock) {m : List MapEntry} (hp : m.Perm es.toList) (hm : MR κ c w g l' m) :
  dh N n0 w0 g0 ⟨s.σ, s.H, (k, bO κ c l') :: cd [k] s.O, s.n⟩ a { w with heap := w.heap.setIfInBounds b (.map es clock) } g := by
 let w' : World := { w with heap := w.heap.setIfInBounds b (.map es clock) }
 have hne : ∀ {b'}, b' ≠ b → w'.heap[b']? = w.heap[b']? := fun {b'} h => by
  simp only [w', Array.getElem?_setIfInBounds]
  rw [if_neg (fun e => h e.symm)]
 have heq : w'.heap[b]? = some (.map es clock) := by simp [w', hb]
 have hsz : w'.heap.size = w.heap.size := by simp [w']
 have hst : ∀ c o, o < g.top c → w'.cell? ⟨c, o, none⟩ = w.cell? ⟨c, o, none⟩ := fun c o ho => by
  refine jJ (hne fun e => ?_)
  subst e; omega
 have hmo : gC w g w' g := ⟨⟨fun _ => Nat.le_refl _, hst⟩, fun _ _ e => e, fun _ _ e => e, fun _ _ _ => rfl⟩
 refine hin.turn (w' := w') (g' := g) (n' := s.n) (O' := [(k, bO κ c l')]) [k] Z Z Z (by rw [hsz]; exact Nat.le_refl _) hst (fun _ => Nat.le_refl _)
  (fun b' hb' hno => ⟨hne fun e => hno k (by simp) (by rw [e]; exact q2), rfl, rfl⟩)
  (fun _ _ _ _ h => h) (fun _ _ => ⟨rfl, rfl, rfl⟩)
  (fun i hi => by
   obtain rfl : i = k := by simpa using hi
   exact ⟨_, q1⟩)
  { hin.wf with topNew := fun b hb => hin.wf.topNew b (by rwa [hsz] at hb), ownNew := fun b hb => hin.wf.ownNew b (by rwa [hsz] at hb), blkOwner := fun id b hb => (by
    obtain ⟨k1, k2, k3, k4⟩ := hin.wf.blkOwner id b hb
    exact ⟨k1, (by rw [hsz]; exact k2), k3, k4⟩) } (Nat.le_refl _) (fun i K hx => ?_)
 simp only [dk] at hx
 split at hx
 ·
  rename_i hi
  have hi' : k = i := by simpa using hi
  subst hi'
  obtain rfl := Ke hx
  exact eG.2 ⟨b, es, clock, q1, q2, q3, heq, hs, m, hp, Av hmo hm⟩
 · cases hx
open Classical in
omit [dI P] [DecidableEq K] in
theorem zy {es : Array MapEntry} {j : Nat} {e : MapEntry} {v : Value} {f : MapEntry → MapEntry} (hn : (es.toList.map (·.key)).Nodup) (h : es[j]? = some e) (hv : e.key = v) : (es.modify j f).toList = es.toList.map fun e => if e.key = v then f e else e := by
 apply List.ext_getElem?
 intro i
 rw [Array.getElem?_toList, Array.getElem?_modify, List.getElem?_map, Array.getElem?_toList]
 by_cases hi : j = i
 · subst hi; rw [if_pos rfl, h]; simp [hv]
 ·
  rw [if_neg hi]
  cases hq : es[i]? with
  | none => rfl
  | some x =>
   have : x.key ≠ v := fun hx => by
    have h1 : (es.toList.map (·.key))[i]? = some v := by simp [hq, hx]
    have h2 : (es.toList.map (·.key))[j]? = some v := by simp [h, hv]
    obtain ⟨l1, e1⟩ := List.getElem?_eq_some_iff.1 h1
    obtain ⟨l2, e2⟩ := List.getElem?_eq_some_iff.1 h2
    have hpw := List.pairwise_iff_getElem.1 hn
    rcases Nat.lt_or_gt_of_ne hi with hlt | hlt
    · exact hpw _ _ l2 l1 hlt (e2.trans e1.symm)
    · exact hpw _ _ l1 l2 hlt (e1.trans e2.symm)
   simp [this]
open Classical in
omit [dI P] [DecidableEq K] in
theorem vX {es : Array MapEntry} {j : Nat} {e : MapEntry} {v : Value} (hn : (es.toList.map (·.key)).Nodup) (h : es[j]? = some e) (hv : e.key = v) : (es.eraseIdxIfInBounds j).toList = es.toList.filter fun e => !decide (e.key = v) := by
 have h1 : (es.eraseIdxIfInBounds j).toList = es.toList.eraseIdx j := by
  simp [Array.eraseIdxIfInBounds, (Array.getElem?_eq_some_iff.1 h).1]
 rw [h1]
 have h' : es.toList[j]? = some e := by simpa using h
 generalize es.toList = l at hn h'
 clear h1 h
 induction l generalizing j with
 | nil => simp at h'
 | cons x r ih =>
  simp only [List.map_cons, List.nodup_cons] at hn
  cases j with
  | zero =>
   obtain rfl : x = e := by simpa using h'
   simp only [List.eraseIdx_cons_zero, List.filter_cons, hv, decide_true, Bool.not_true, Bool.false_eq_true, if_false]
   refine (List.filter_eq_self.2 fun y hy => ?_).symm
   have : y.key ≠ v := fun e => hn.1 (by rw [hv, ← e]; exact List.mem_map_of_mem (f := (·.key)) hy)
   simp [this]
  | succ j =>
   have hj : r[j]? = some e := by simpa using h'
   have hx : x.key ≠ v := fun e' => hn.1 (by rw [e', ← hv]; exact List.mem_map_of_mem (f := (·.key)) (List.mem_of_getElem? hj))
   simp only [List.eraseIdx_cons_succ, List.filter_cons, hx, decide_false, Bool.not_false, if_true]
   rw [ih hn.2 hj]
theorem xu {t kt et : TypeId} {x y v : Operand} {b : List (K × V)} {kk : K} {z : V} {j jk : TI} (ht : ti P t = some j) (hm : j.k = .map kt et) (hkt : ti P kt = some jk) (hkd : HB jk.k = some κ.d)
  (hx : ev σ x = .own k) (hO : dk O k = some (bO κ c b)) (hy : gj ⟨σ, H, O, n⟩ y = κ.av kk) (hv : gj ⟨σ, H, O, n⟩ v = c z) (hO2 : o0 (cd [k] O) some = some O2)
  (kq : aM P N n0 ops rest Q ⟨σ, H, (k, bO κ c (iO b kk z)) :: O2, n⟩) :
  aM P N n0 ops (⟨none, .mapUpdate t x y v, ty, pos, af, none⟩ :: rest) Q ⟨σ, H, O, n⟩ := by
 rw [i8] at hO2
 obtain rfl := Ke hO2
 refine qE Z Z (fun w0 g0 a w g hi => ?_) kq
 obtain ⟨_, _, _, h2⟩ := aV ht
 obtain ⟨_, _, _, h3⟩ := aV hkt
 have hd := h2.desc_map hm
 have hkd' := h3.desc_key hkd
 have r1 := bA hi.slots x
 rw [show ev (St.mk σ H O n).σ x = _ from hx] at r1
 have r2 := dJ hi y
 rw [hy] at r2
 have e2 := κ.rep.1 r2
 have r3 := dJ hi v
 rw [hv] at r3
 obtain ⟨bb, es, clock, q1, q2, q3, q4, q5, m, q6, q7⟩ := eG.1 (hi.owns.at hO)
 have e1 : g.own k = some (a.eval x) := r1
 rw [q1] at e1
 have e1 := (Ke e1).symm
 have hu : P.underlying t = some (.map kt et) := by rw [h2.und, hd]
 have huk : P.underlying kt = some κ.d := by rw [h3.und, hkd']
 have hb := (Array.getElem?_eq_some_iff.1 q4).1
 rcases rG q5 q6 q7 kk with ⟨f1, f2, f3⟩ | ⟨jj, e, xx, f1, f2, f3, f4, f5⟩
 ·
  refine ⟨_, g, ?_, hi.setMap (κ := κ) (c := c) (es := es.push { key := κ.val kk, val := a.eval v, born := clock }) (clock := clock + 1) (iO b kk z) hO q1 q2 q3 hb (Go.MapKept.stamped_push q5 f3) (m := m ++ [{ key := κ.val kk, val := a.eval v, born := clock }]) ?_ ?_⟩
  · simp [execOp, e1, e2, Instr.mapUpdate, run_underlying hu, Go.MapKept.run_getObj_map q4, Go.MapKept.run_checkKey huk (κ.key kk), Go.MapKept.run_findKey huk f1, Go.MapKept.run_setObj_map _ q4, Result.andThen]
  · rw [Array.toList_push]; exact q6.append_right _
  ·
   simp only [iO, f2, Option.isSome_none, Bool.false_eq_true, if_false]
   exact DL rfl r3 q7
 ·
  classical
  let f : MapEntry → MapEntry := fun e => { e with key := κ.val kk, val := a.eval v }
  have hkey : ∀ e', es[jj]? = some e' → (f e').key = e'.key := fun e' he' => by rw [f2] at he'; cases he'; exact f3.symm
  have hst : Stamped (es.modify jj f) clock := Go.MapKept.stamped_modify q5 jj f (fun _ _ => rfl) (fun e' _ => hkey e')
  have hpp : (m.map fun e => if e.key = κ.val kk then f e else e).Perm (es.modify jj f).toList := by
   rw [zy q5.2.2 f2 f3]; exact q6.map _
  refine ⟨_, g, ?_, hi.setMap (κ := κ) (c := c) (es := es.modify jj f) (clock := clock) (iO b kk z) hO q1 q2 q3 hb hst hpp ?_⟩
  · simp [execOp, e1, e2, Instr.mapUpdate, run_underlying hu, Go.MapKept.run_getObj_map q4, Go.MapKept.run_checkKey huk (κ.key kk), Go.MapKept.run_findKey huk f1, f2, f3, Go.MapKept.run_keyThatStays (κ.key kk), Go.MapKept.run_setObj_map _ q4, Result.andThen, f]
  ·
   simp only [iO, f4, Option.isSome_some, if_true]
   exact zq (f := f) (fun _ => ⟨rfl, r3⟩) q7
theorem Iq {t kt et : TypeId} {x y : Operand} {ats : Array TypeId} {b : List (K × V)} {kk : K} {j jk : TI} (ht : ti P t = some j) (hm : j.k = .map kt et) (hkt : ti P kt = some jk) (hkd : HB jk.k = some κ.d)
  (hx : ev σ x = .own k) (hO : dk O k = some (bO κ c b)) (hy : gj ⟨σ, H, O, n⟩ y = κ.av kk) (ha : ats[0]? = some t) (hO2 : o0 (cd [k] O) some = some O2)
  (kq : aM P N n0 ops rest Q ⟨σ, H, (k, bO κ c (qw b kk)) :: O2, n⟩) :
  aM P N n0 ops (⟨none, .call ⟨.builtin .delete, #[x, y], ats⟩, ty, pos, af, none⟩ :: rest) Q ⟨σ, H, O, n⟩ := by
 rw [i8] at hO2
 obtain rfl := Ke hO2
 refine gV rfl (fun w0 g0 a w g hi => ?_) kq
 obtain ⟨_, _, _, h2⟩ := aV ht
 obtain ⟨_, _, _, h3⟩ := aV hkt
 have hd := h2.desc_map hm
 have hkd' := h3.desc_key hkd
 have r1 := bA hi.slots x
 rw [show ev (St.mk σ H O n).σ x = _ from hx] at r1
 have r2 := dJ hi y
 rw [hy] at r2
 have e2 := κ.rep.1 r2
 obtain ⟨bb, es, clock, q1, q2, q3, q4, q5, m, q6, q7⟩ := eG.1 (hi.owns.at hO)
 have e1 : g.own k = some (a.eval x) := r1
 rw [q1] at e1
 have e1 := (Ke e1).symm
 have hu : P.underlying t = some (.map kt et) := by rw [h2.und, hd]
 have huk : P.underlying kt = some κ.d := by rw [h3.und, hkd']
 have hb := (Array.getElem?_eq_some_iff.1 q4).1
 rcases rG q5 q6 q7 kk with ⟨f1, f2, f3⟩ | ⟨jj, e, xx, f1, f2, f3, f4, f5⟩
 ·
  have hdel : qw b kk = b := by
   refine List.filter_eq_self.2 fun p hp => ?_
   simp [wE.1 f2 p hp]
  refine ⟨.tuple #[], _, g, dq (u := .tuple #[]) ?_, hi.setMap (κ := κ) (c := c) (es := es) (clock := clock) (qw b kk) hO q1 q2 q3 hb q5 q6 (by rw [hdel]; exact q7)⟩
  simp [builtin, Builtin.delete_, ha, e1, e2, run_underlying hu, Go.MapKept.run_getObj_map q4, Go.MapKept.run_checkKey huk (κ.key kk), Go.MapKept.run_findKey huk f1, Go.MapKept.run_setObj_map _ q4, Result.andThen]
 ·
  classical
  have hpp : (m.filter fun e => !decide (e.key = κ.val kk)).Perm (es.eraseIdxIfInBounds jj).toList := by
   rw [vX q5.2.2 f2 f3]; exact q6.filter _
  refine ⟨.tuple #[], _, g, dq (u := .tuple #[]) ?_, hi.setMap (κ := κ) (c := c) (es := es.eraseIdxIfInBounds jj) (clock := clock) (qw b kk) hO q1 q2 q3 hb (Go.MapKept.stamped_erase q5 jj) hpp (Dv q7)⟩
  simp [builtin, Builtin.delete_, ha, e1, e2, run_underlying hu, Go.MapKept.run_getObj_map q4, Go.MapKept.run_checkKey huk (κ.key kk), Go.MapKept.run_findKey huk f1, Go.MapKept.run_setObj_map _ q4, Result.andThen]
theorem Fq {t kt et : TypeId} {x : Operand} {b : List (K × V)} {j : TI} (ht : ti P t = some j) (hm : j.k = .map kt et) (hx : ev s.σ x = .own k) (hO : dk s.O k = some (bO κ c b)) :
  eV P N n0 s (.call ⟨.builtin .len, #[x], #[t]⟩) (.int .i64 (b.length : Int)) := by
 rintro ⟨dst, op, type, pos, after, guard⟩ rfl w0 g0 a w g hin
 obtain ⟨_, _, _, h2⟩ := aV ht
 have hd := h2.desc_map hm
 have r1 := bA hin.slots x
 rw [hx] at r1
 obtain ⟨bb, es, clock, q1, q2, q3, q4, q5, m, q6, q7⟩ := eG.1 (hin.owns.at hO)
 have e1 : g.own k = some (a.eval x) := r1
 rw [q1] at e1
 have e1 := (Ke e1).symm
 have hu : P.underlying t = some (.map kt et) := by rw [h2.und, hd]
 have hl : es.size = b.length := by
  have h1 := q6.length_eq
  have h2 := congrArg List.length (pO q7)
  simp only [List.length_map, Array.length_toList] at h1 h2
  omega
 refine ⟨.int .i64 (b.length : Int), ?_, rfl⟩
 have hrun : (builtin .len #[t] type (#[x].map fun | .const _ => true | _ => false) (#[x].map a.eval)).run P w = .ok (.value (.int .i64 (b.length : Int))) w := by
  simp only [builtin]
  refine bG (u := .int .i64 (b.length : Int)) ?_
  have : (#[x].map a.eval) = #[a.eval x] := by simp
  rw [this, e1]
  simp [Builtin.len_, run_underlying hu, goInt, Go.MapKept.run_getObj_map q4, Result.andThen, hl]
 exact hrun
omit [dI P] [DecidableEq K] in
theorem dh.newObj (h : dh N n0 w0 g0 s a w g) {w' : World} {ob : Obj} {v : Value} {z : Nat} {K : Kind} (hv1 : v.oneCell' = true) (hG : ol w w' ob)
  (hK : ∀ g' : G, g'.own s.n = some v → g'.wd s.n = z → g'.owner w.heap.size = some s.n → g'.top w.heap.size = 0 → w'.heap[w.heap.size]? = some ob → gC w g w' g' → K.holds s.n w' g') :
  ∃ g', dh N n0 w0 g0 ⟨s.σ, s.H, (s.n, K) :: s.O, s.n + 1⟩ a w' g' ∧ g'.own s.n = some v ∧ gC w g w' g' := by
 let g' : G := g.newOwn s.n v z (some w.heap.size) 0
 obtain ⟨hnb, hno⟩ := h.wf.fresh
 have hne : ∀ b, b < w.heap.size → ¬ (w.heap.size = b) := fun b hb e => by omega
 have hob : w'.heap[w.heap.size]? = some ob := by rw [hG.heap]; simp
 have hsize : w'.heap.size = w.heap.size + 1 := by rw [hG.heap]; simp
 have hcell : ∀ b o, o < g.top b → w'.cell? ⟨b, o, none⟩ = w.cell? ⟨b, o, none⟩ := fun b o ho => jJ (hG.old (h.wf.topLt ho))
 have htop : ∀ b, g.top b ≤ g'.top b := fun b => by
  simp only [g', G.newOwn]
  split
  ·
   rename_i hb
   obtain rfl := Ke hb
   rw [h.wf.topNew _ (Nat.le_refl _)]; exact Nat.zero_le _
  · exact Nat.le_refl _
 have hm : gC w g w' g' := ⟨⟨htop, hcell⟩, fun _ _ e => e, fun id u hu => by
  have : id ≠ s.n := fun e => by rw [e, hno] at hu; cases hu
  simp [g', G.newOwn, this, hu], fun id u hu => by
  have : id ≠ s.n := fun e => by rw [e, hno] at hu; cases hu
  simp [g', G.newOwn, this]⟩
 have hk := hK g' (by simp [g', G.newOwn]) (by simp [g', G.newOwn]) (by simp [g', G.newOwn]) (by simp [g', G.newOwn]) hob hm
 refine ⟨g', ?_, by simp [g', G.newOwn], hm⟩
 have := h.turn (w' := w') (g' := g') (n' := s.n + 1) (O' := [(s.n, K)]) [] hG.os hG.tape hG.output (by omega) hcell htop
  (fun b hb _ => by refine ⟨hG.old hb, ?_, ?_⟩ <;> simp [g', G.newOwn, hne b hb])
  (fun b j hj _ hb => by
   simp only [g', G.newOwn] at hb
   split at hb
   · obtain rfl := Ke hb; omega
   · exact hb)
  (fun i hi => by
   have : i ≠ s.n := by omega
   simp [g', G.newOwn, this])
  (fun _ h => by cases h)
  {
   topNew := fun b hb => by
    have h1 : ¬ (w.heap.size = b) := by omega
    simp only [g', G.newOwn, Option.some.injEq, h1, if_false]
    exact h.wf.topNew b (by omega)
   ownNew := fun b hb => by
    have h1 : ¬ (w.heap.size = b) := by omega
    simp only [g', G.newOwn, Option.some.injEq, h1, if_false]
    exact h.wf.ownNew b (by omega)
   blkOwner := fun id b hb => by
    obtain ⟨k1, k2, k3, k4⟩ := h.wf.blkOwner id b hb
    simp only [g', G.newOwn, Option.some.injEq, hne b k2, if_false]
    exact ⟨k1, by omega, k3, by omega⟩
   ownLt := fun id u hu => by
    simp only [g', G.newOwn] at hu
    split at hu
    · omega
    · have := h.wf.ownLt id u hu; omega
   ownSl := fun id u hu => by
    simp only [g', G.newOwn] at hu
    split at hu
    · obtain rfl := Ke hu; exact hv1
    · exact h.wf.ownSl id u hu
   sep := fun id b hb => by
    have hb' : g.blk id = some b := hb
    have : id ≠ s.n := fun e => by rw [e, hnb] at hb'; cases hb'
    simp only [g', G.newOwn, this, if_false]
    exact h.wf.sep id b hb'
   idLt := fun b i hb => by
    simp only [g', G.newOwn] at hb
    split at hb
    · obtain rfl := Ke hb; omega
    · have := h.wf.idLt b i hb; omega }
  (Nat.le_succ _)
  (fun i K' hx => by
   simp only [dk] at hx
   split at hx
   ·
    rename_i hi
    have hi' : s.n = i := by simpa using hi
    subst hi'
    obtain rfl := Ke hx
    exact hk
   · cases hx)
 have hdr : ∀ O : List (Nat × Kind), cd [] O = O := by
  intro O
  induction O with
  | nil => rfl
  | cons e r ih => obtain ⟨i, K⟩ := e; simp [cd, ej, ih]
 rw [hdr] at this
 exact this
variable (κ c) in
theorem Ap {t : TypeId} : vj P N n0 s (.makeMap t none) ty (bO κ c ([] : List (K × V))) [] := by
 rintro ⟨dst, op, type, pos, after, guard⟩ rfl rfl w0 g0 a w g hi
 have hG : ol w (w.alloc (.map #[] 0)) (.map #[] 0) := ⟨rfl, rfl, rfl, rfl⟩
 obtain ⟨g', k1, k2, _⟩ := hi.newObj (v := .map (some w.heap.size)) (z := 0) (K := bO κ c ([] : List (K × V))) rfl hG fun g' h1 _ h3 h4 h5 _ =>
  eG.2 ⟨_, _, _, h1, h3, h4, h5, Go.MapKept.stamped_empty 0, [], List.Perm.refl _, trivial⟩
 have hdr : cd [] s.O = s.O := by
  generalize s.O = O
  induction O with
  | nil => rfl
  | cons e r ih => obtain ⟨i, K⟩ := e; simp [cd, ej, ih]
 refine ⟨_, _, g', dq (u := .map (some w.heap.size)) ?_, by rw [hdr]; exact k1, k2⟩
 simp [Instr.makeMap, Result.andThen]
def Et (l : List (K × V)) (k : K) (x : V) : Option (List (K × V)) := some (iO l k x)
def Ji (l : List (K × V)) (k : K) : Option (List (K × V)) := some (qw l k)
theorem CS {l y : List (K × V)} {k : K} {x : V} (h : Et l k x = some y) : iO l k x = y := Ke h
theorem Jc {l y : List (K × V)} {k : K} (h : Ji l k = some y) : qw l k = y := Ke h
omit [DecidableEq K] in
theorem tL {α : Type} {m : Nat} {f : α → AV} (hf : ∀ x, (f x).lim m = true) : ∀ l : List α, dT m (l.map f) = true
 | [] => rfl
 | x :: r => by simp only [List.map_cons, dT, hf x, tL hf r, Bool.and_self]
omit [DecidableEq K] in
theorem yL {ρ : Nat → Nat} {m : Nat} {l : List (K × V)} (hc : ∀ x, (c x).lim 0 = true) : KR ρ m (bO κ c l) (bO κ c l) := .map (tL (fun p => κ.one p.1) l) (tL (fun p => hc p.2) l)
omit [DecidableEq K] in
theorem wB {R : List Nat} {l : List (K × V)} (hc : ∀ x, (c x).lim 0 = true) : GH R (bO κ c l) := ⟨fc R _ (tL (fun p => κ.one p.1) l), fc R _ (tL (fun p => hc p.2) l)⟩
omit [DecidableEq K] in
theorem gJ {l : List (K × V)} {ρ : Nat → Nat} {i : Nat} {O O' : List (Nat × Kind)} (hc : ∀ x, (c x).lim 0 = true) (h : O = O') : (i, Kind.map (gH ρ (l.map fun p => κ.av p.1)) (gH ρ (l.map fun p => c p.2))) :: O = (i, bO κ c l) :: O' := by
 have h1 := d0 (ρ := ρ) _ (tL (fun p => κ.one p.1) l)
 have h2 := d0 (ρ := ρ) _ (tL (fun p => hc p.2) l)
 rw [h1, h2, h]; rfl
end
section
variable {K V : Type} [DecidableEq K] {κ : Cd K} {c : V → AV} {P : Program} [dI P] {N n0 k : Nat} {s : St}
def yb (l : List (K × V)) (kk : K) (z : V) : Option V := some ((mg l kk).getD z)
theorem pj {t kt et : TypeId} {x y : Operand} {b : List (K × V)} {kk : K} {z v : V} {j jk je : TI} (ht : ti P t = some j) (hm : j.k = .map kt et) (hkt : ti P kt = some jk) (hkd : HB jk.k = some κ.d) (het : ti P et = some je)
  {zx : AV} (hz : HM je = some zx) (hzl : HZ zx (c z)) (hx : ev s.σ x = .own k) (hO : dk s.O k = some (bO κ c b)) (hy : gj s y = κ.av kk) (hv : yb b kk z = some v) : eV P N n0 s (.lookup t x y false) (c v) := by
 rw [← Ke hv]; exact FG ht hm hkt hkd het hz hzl hx hO hy
theorem jY {t kt et : TypeId} {x y : Operand} {b : List (K × V)} {kk : K} {z v : V} {j jk je : TI} (ht : ti P t = some j) (hm : j.k = .map kt et) (hkt : ti P kt = some jk) (hkd : HB jk.k = some κ.d) (het : ti P et = some je)
  {zx : AV} (hz : HM je = some zx) (hzl : HZ zx (c z)) (hx : ev s.σ x = .own k) (hO : dk s.O k = some (bO κ c b)) (hy : gj s y = κ.av kk) (hv : yb b kk z = some v) : eV P N n0 s (.lookup t x y true) (.tup [c v, .bool (mg b kk).isSome]) := by
 rw [← Ke hv]; exact Bw ht hm hkt hkd het hz hzl hx hO hy
end
section
variable {K V : Type} [DecidableEq K] {κ : Cd K} {c : V → AV} {N n0 k : Nat} {s : St} {w0 : World} {g0 : G} {a : Act} {w : World} {g : G}
theorem dh.mapAgain (h : dh N n0 w0 g0 s a w g) {l : List (K × V)} (hO : dk s.O k = some (bO κ c l)) :
  ∃ g' v, dh N n0 w0 g0 ⟨s.σ, s.H, (s.n, bO κ c l) :: cd [k] s.O, s.n + 1⟩ a w g' ∧ g.own k = some v ∧ g'.own s.n = some v ∧ gC w g w g' := by
 obtain ⟨b, es, clock, q1, q2, q3, q4, q5, m, q6, q7⟩ := eG.1 (h.owns.at hO)
 let v : Value := .map (some b)
 let g' : G := g.newOwn s.n v 0 (some b) 0
 obtain ⟨hnb, hno⟩ := h.wf.fresh
 have hk : k < s.n := h.wf.ownLt _ _ q1
 have hlt : b < w.heap.size := (Array.getElem?_eq_some_iff.1 q4).1
 have htop : g'.top = g.top := by
  funext b'
  simp only [g', G.newOwn]
  split
  · rename_i hb; obtain rfl := Ke hb; exact q3.symm
  · rfl
 have hm : gC w g w g' := ⟨⟨fun b => by rw [htop]; exact Nat.le_refl _, fun _ _ _ => rfl⟩, fun _ _ e => e, fun id u hu => by
  have : id ≠ s.n := fun e => by rw [e, hno] at hu; cases hu
  simp [g', G.newOwn, this, hu], fun id u hu => by
  have : id ≠ s.n := fun e => by rw [e, hno] at hu; cases hu
  simp [g', G.newOwn, this]⟩
 have hK : (bO κ c l).holds s.n w g' := eG.2 ⟨b, es, clock, by simp [g', G.newOwn, v], by simp [g', G.newOwn], by rw [htop]; exact q3, q4, q5, m, q6, Av hm q7⟩
 refine ⟨g', v, ?_, q1, by simp [g', G.newOwn, v], hm⟩
 refine h.turn (w' := w) (g' := g') (n' := s.n + 1) (O' := [(s.n, bO κ c l)]) [k] Z Z Z (Nat.le_refl _) (fun _ _ _ => rfl) (fun b => by rw [htop]; exact Nat.le_refl _)
  (fun b' hb' hno' => ?_) (fun b' j hj _ hb' => ?_) (fun i hi => by
   have : i ≠ s.n := by omega
   simp [g', G.newOwn, this])
  (fun i hi => by
   obtain rfl : i = k := by simpa using hi
   exact ⟨_, q1⟩)
  {
   topNew := fun b' hb' => by rw [htop]; exact h.wf.topNew b' hb'
   ownNew := fun b' hb' => by
    have h1 : ¬ (b = b') := by omega
    simp only [g', G.newOwn, Option.some.injEq, h1, if_false]
    exact h.wf.ownNew b' hb'
   blkOwner := fun id b' hb' => by
    obtain ⟨k1, k2, k3, k4⟩ := h.wf.blkOwner id b' hb'
    have h1 : ¬ (b = b') := fun e => by
     subst e
     rw [q2] at k1
     obtain rfl := Ke k1
     have := h.wf.sep _ _ hb'
     rw [q1] at this; cases this
    simp only [g', G.newOwn, Option.some.injEq, h1, if_false]
    exact ⟨k1, k2, k3, by omega⟩
   ownLt := fun id u hu => by
    simp only [g', G.newOwn] at hu
    split at hu
    · omega
    · have := h.wf.ownLt id u hu; omega
   ownSl := fun id u hu => by
    simp only [g', G.newOwn] at hu
    split at hu
    · obtain rfl := Ke hu; rfl
    · exact h.wf.ownSl id u hu
   sep := fun id b' hb' => by
    have hb2 : g.blk id = some b' := hb'
    have : id ≠ s.n := fun e => by rw [e, hnb] at hb2; cases hb2
    simp only [g', G.newOwn, this, if_false]
    exact h.wf.sep id b' hb2
   idLt := fun b' i hb' => by
    simp only [g', G.newOwn] at hb'
    split at hb'
    · obtain rfl := Ke hb'; omega
    · have := h.wf.idLt b' i hb'; omega }
  (Nat.le_succ _)
  (fun i K' hx => by
   simp only [dk] at hx
   split at hx
   ·
    rename_i hi
    have hi' : s.n = i := by simpa using hi
    subst hi'
    obtain rfl := Ke hx
    exact hK
   · cases hx)
 ·
  have h1 : ¬ (b = b') := fun e => by subst e; exact hno' k (by simp) q2
  exact ⟨rfl, by simp [g', G.newOwn, h1], by rw [htop]⟩
 ·
  simp only [g', G.newOwn] at hb'
  split at hb'
  · obtain rfl := Ke hb'; omega
  · exact hb'
variable {σ : List (Nat × AV)} {H : List (Nat × Nat × AV)} {O : List (Nat × Kind)} {n : Nat}
theorem en (id off k : Nat) {l : List (K × V)} (hH : d3 H id off = some (.own k)) (hO : dk O k = some (bO κ c l)) (hi : dh N n0 w0 g0 ⟨σ, H, O, n⟩ a w g) :
  ∃ g', dh N n0 w0 g0 ⟨σ, (id, off, .own n) :: H, (n, bO κ c l) :: cd [k] O, n + 1⟩ a w g' := by
 obtain ⟨g', v, k1, k2, k3, k4⟩ := hi.mapAgain hO
 refine ⟨g', { k1 with cells := fun i p x hx => ?_ }⟩
 simp only [d3] at hx
 split at hx
 ·
  rename_i hc
  simp only [Bool.and_eq_true, Nat.beq_eq] at hc
  obtain ⟨rfl, rfl⟩ := hc
  obtain rfl := Ke hx
  obtain ⟨b, cc, e, hb, hw, u, hu, r⟩ := k1.cells id off (.own k) hH
  refine ⟨b, cc, e, hb, hw, u, hu, ?_⟩
  have e2 : g'.own k = some u := r
  have e3 : g'.own k = some v := k4.own k v k2
  rw [e3] at e2
  rw [← Ke e2]; exact k3
 · exact k1.cells i p x hx
end
end Go.Pv
namespace Go.Pv
set_option linter.unusedSectionVars false
set_option linter.unusedVariables false
section
variable {P : Program} [dI P] {N n0 : Nat} {Q : bY} {ops : Array Oper} {rest : List Oper} {σ : List (Nat × AV)} {H : List (Nat × Nat × AV)} {O : List (Nat × Kind)} {n : Nat}
 {d : Nat} {op : Op} {ty : TypeId} {pos : String} {af : Array Edge} {s : St} {c x y : Code} {α β : Type}
omit [dI P] in
theorem bx {o : Option α} {f : α → Option β} {r : β} {G : Prop} (h : o.bind f = some r) (k : ∀ v, o = some v → f v = some r → G) : G := by
 obtain ⟨v, h1, h2⟩ := bi h; exact k v h1 h2
theorem ch (k : cg P N n0 c Q ⟨σ, H, O, n⟩) : cg P N n0 c Q ⟨σ, H, O, n⟩ := k
theorem bw {t : Operand} {b : Bool} {u v : Option α} {r : α} (hc : ev σ t = .bool b) (h : (bif b then u else v) = some r) (ht : u = some r → cg P N n0 x Q ⟨σ, H, O, n⟩) (hf : v = some r → cg P N n0 y Q ⟨σ, H, O, n⟩) :
 cg P N n0 (.cond t x y) Q ⟨σ, H, O, n⟩ := fB hc (fun e => ht (cT e h)) fun e => hf (cF e h)
theorem Ai {K : St → Prop} {j e i : Nat} {want b : Bool} {A : List (Nat × Nat × AV)} {u v : Option α} {r : α} (hj : fq ops j = some e) (hb : lk σ e = .bool b) (hh : (bif b then u else v) = some r)
 (yes : u = some r → DP P N n0 ops H O i (⟨some d, op, ty, pos, af, some (j, want)⟩ :: rest) ((e, .bool true) :: σ) n A K)
 (no : v = some r → DP P N n0 ops H O i (⟨some d, op, ty, pos, af, some (j, want)⟩ :: rest) ((e, .bool false) :: σ) n A K) :
 DP P N n0 ops H O i (⟨some d, op, ty, pos, af, some (j, want)⟩ :: rest) σ n A K := ds hj hb (fun e => yes (cT e hh)) fun e => no (cF e hh)
theorem dN {j e : Nat} {b : Bool} {u v : Option α} {r : α} (hj : fq ops j = some e) (he : Nat.blt e N = true) (hb : lk σ e = .bool b) (hd : Nat.blt d N = true) (_hw : nb true = some false) (hh : (bif b then u else v) = some r)
 (yes : u = some r → aM P N n0 ops (⟨some d, op, ty, pos, af, none⟩ :: rest) Q ⟨(e, .bool true) :: σ, H, O, n⟩) (no : v = some r → aM P N n0 ops rest Q ⟨(d, .tup []) :: (e, .bool false) :: σ, H, O, n⟩) :
 aM P N n0 ops (⟨some d, op, ty, pos, af, some (j, true)⟩ :: rest) Q ⟨σ, H, O, n⟩ := gs hj he hb hd rfl (fun e => yes (cT e hh)) fun e => no (cF e hh)
theorem eN {j e : Nat} {b : Bool} {u v : Option α} {r : α} (hj : fq ops j = some e) (he : Nat.blt e N = true) (hb : lk σ e = .bool b) (hd : Nat.blt d N = true) (_hw : nb false = some true) (hh : (bif b then u else v) = some r)
 (yes : v = some r → aM P N n0 ops (⟨some d, op, ty, pos, af, none⟩ :: rest) Q ⟨(e, .bool false) :: σ, H, O, n⟩) (no : u = some r → aM P N n0 ops rest Q ⟨(d, .tup []) :: (e, .bool true) :: σ, H, O, n⟩) :
 aM P N n0 ops (⟨some d, op, ty, pos, af, some (j, false)⟩ :: rest) Q ⟨σ, H, O, n⟩ := gs hj he hb hd rfl (fun e => yes (cF e hh)) fun e => no (cT e hh)
omit [dI P] in
theorem si {u r : α} (h : some u = some r) : u = r := Ke h
theorem eA {X v2 : AV} {Y H2 : List (Nat × Nat × AV)} {Z0 O2 : List (Nat × Kind)} {W n2 : Nat} {f1 : AV → AV} {f2 : List (Nat × Nat × AV) → List (Nat × Nat × AV)} {f3 : List (Nat × Kind) → List (Nat × Kind)} {f4 : Nat → Nat}
  (hv : (f1 X).nf some = some v2) (hH : xy (f2 Y) some = some H2) (hO : o0 (f3 Z0) some = some O2) (hn : HQ (f4 W) some = some n2) (k : aM P N n0 ops rest Q ⟨(d, v2) :: σ, H2, O2, n2⟩) :
  ∀ r H O n, (r = X ∧ H = Y ∧ O = Z0 ∧ n = W) → aM P N n0 ops rest Q ⟨(d, f1 r) :: σ, f2 H, f3 O, f4 n⟩ := by
 rintro _ _ _ _ ⟨rfl, rfl, rfl, rfl⟩
 exact HK hv (ae hH hO hn k)
theorem Eu {id : Nat} (m : Nat) {l : List Oper} (ps : List (List Nat)) (hmix : P.follows .mixedOrders = true) (k : DX P N n0 l.toArray (l.take m) σ H O n (fun xs => B2 l.toArray xs ps = true) (aM P N n0 l.toArray (l.drop m) Q))
 (hm : Nat.ble m l.length = true := by kernel_rfl) (h1 : mq l.toArray m = true := by kernel_rfl) (h2 : gS l.toArray m = true := by kernel_rfl) (h3 : gQ l.toArray = true := by kernel_rfl)
 (h4 : wq N l.toArray m = true := by kernel_rfl) (hok : Es l.toArray (l.take m) = true := by kernel_rfl) : cg P N n0 (.region id l.toArray true) Q ⟨σ, H, O, n⟩ := Gt ps hmix hm h1 h2 h3 h4 hok k
theorem mw {id : Nat} (m : Nat) {l : List Oper} (hmix : P.follows .mixedOrders = true) (k : DP P N n0 l.toArray H O 0 (l.take m) σ n H (aM P N n0 l.toArray (l.drop m) Q)) (hm : Nat.ble m l.length = true := by kernel_rfl)
 (h1 : mq l.toArray m = true := by kernel_rfl) (h2 : gS l.toArray m = true := by kernel_rfl) (h3 : gQ l.toArray = true := by kernel_rfl) (h4 : wq N l.toArray m = true := by kernel_rfl)
 (hok : Eg l.toArray (l.take m) = true := by kernel_rfl) (hH : uV n H = true := by kernel_rfl) : cg P N n0 (.region id l.toArray true) Q ⟨σ, H, O, n⟩ := G3 hmix hm h1 h2 h3 h4 hok hH k
theorem zS {L : List Nat} {r : List (Nat × AV)} (h : oy σ O L r := by (repeat refine zA Z Z Z ?_); exact trivial) : oy σ O L r := h
theorem zH {L : List Nat} {r : List (Nat × Nat × AV)} (h : ib H O L r := by (repeat refine zC Z Z Z Z ?_); exact trivial) : ib H O L r := h
theorem zO {L : List Nat} {r : List (Nat × Kind)} (h : iz O L r := by
 (repeat (first | refine zE rfl .row rfl ?_ | refine zE rfl (.wr (Fz (fun _ => rfl) _)) rfl ?_ | refine zE rfl (yL fun _ => rfl) rfl ?_)); exact trivial) : iz O L r := h
theorem zs {L : List Nat} {s s' : St} (g : fH s.n L = true := by rfl) (n : s'.n = L.length := by rfl) (a : oy s.σ s.O L s'.σ := by exact zS) (b : ib s.H s.O L s'.H := by exact zH) (c : iz s.O L s'.O := by exact zO) : od L s s' := ⟨g, n, a, b, c⟩
theorem cN {ε : Type} {R : ε → Prop} {inv : ε → St} {e : ε} (L : List Nat) (hR : R e := by rfl) (hk : cL n0 L 0 = true := by rfl) (hs : od L s (inv e) := by exact zs) : bY.cut n0 R inv Q .normal s := DO L hR hk hs
theorem lN {S E : Type} {o : S ⊕ E} {inv : S → St} {v : S} (L : List Nat) (ho : o = .inl v := by rfl) (hk : cL n0 L 0 = true := by rfl) (hs : od L s (inv v) := by exact zs) :
 bY.then (fun s' => ∃ v', o = .inl v' ∧ ∃ L, cL n0 L 0 = true ∧ od L s' (inv v')) Q .normal s := DH L ho hk hs
theorem rW {p q : Prop} (k : q) (h : q → p := by
 intro k
 repeat (first | refine an ?_ | refine ac ?_ | refine Ga ?_)
 exact k) : p := h k
section
variable {m : Nat} {rs : List ResultVar} {K : AV → List (Nat × Nat × AV) → List (Nat × Kind) → Nat → Prop} {s : St} {r : AV} {H : List (Nat × Nat × AV)} {O : List (Nat × Kind)} (L : List Nat)
theorem rA (k : K r H O L.length := by exact ⟨rfl, rfl, rfl, rfl⟩) (h : tQ P s rs = some (r.ren (gz L 0)) := by rfl) (hl : r.lim L.length = true := by rfl) (hk : cL m L 0 = true := by rfl) (hg : fH s.n L = true := by rfl)
 (hH : ib s.H s.O L H := by exact zH) (hO : iz s.O L O := by exact zO) : lH P m rs K .ret s := Kc L H O h hl hk hg hH hO k
theorem Il (k : K r H O L.length := by exact ⟨rfl, rfl, rfl, rfl⟩) (h : tQ P s rs = some (r.ren (gz L 0)) := by rfl) (hl : r.lim L.length = true := by rfl) (hk : cL m L 0 = true := by rfl) (hg : fH s.n L = true := by rfl)
 (hH : ib s.H s.O L H := by exact zH) (hO : iz s.O L O := by exact zO) : lH P m rs K .normal s := Jj L H O h hl hk hg hH hO k
end
theorem rF {p : Prop} (h : p := by
 repeat (first | refine an ?_ | refine ac ?_ | refine Ga ?_)
 exact rr Z Z Z) : p := h
theorem xX {p q : Prop} (k : q) (h : q → p := by
 intro k
 repeat (first | refine cO ?_ | refine Io ?_ | refine bE rfl ?_)
 exact bI k) : p := h k
section
variable {dst : Option Tmp} {j e : Nat} {want w' : Bool}
theorem d6 (k : aM P N n0 ops (⟨dst, op, ty, pos, af, none⟩ :: rest) Q ⟨σ, H, O, n⟩) (hj : fq ops j = some e := by rfl) (he : Nat.blt e N = true := by rfl) (hb : lk σ e = .bool want := by rfl) :
 aM P N n0 ops (⟨dst, op, ty, pos, af, some (j, want)⟩ :: rest) Q ⟨σ, H, O, n⟩ := gy hj he hb k
theorem d7 (k : aM P N n0 ops rest Q ⟨(d, .tup []) :: σ, H, O, n⟩) (hj : fq ops j = some e := by rfl) (he : Nat.blt e N = true := by rfl) (hb : lk σ e = .bool w' := by rfl) (hw : (!want) = w' := by rfl) (hd : Nat.blt d N = true := by rfl) :
 aM P N n0 ops (⟨some d, op, ty, pos, af, some (j, want)⟩ :: rest) Q ⟨σ, H, O, n⟩ := gn hj he hb hw hd k
theorem d8 (k : aM P N n0 ops rest Q ⟨(d, .tup []) :: σ, H, O, n⟩) (hj : fq ops j = some e := by rfl) (he : Nat.blt e N = true := by rfl) (hb : lk σ e = .tup [] := by rfl) (hd : Nat.blt d N = true := by rfl) :
 aM P N n0 ops (⟨some d, op, ty, pos, af, some (j, want)⟩ :: rest) Q ⟨σ, H, O, n⟩ := gu hj he hb hd k
end
theorem aR {id : Nat} {l : List Oper} (h : aM P N n0 l.toArray l Q s) : cg P N n0 (.region id l.toArray false) Q s := iM h
theorem ag {id : Nat} {l : List Oper} (h : aM P N n0 l.toArray l (bY.then (cg P N n0 y Q) Q) s) : cg P N n0 (.seq (.region id l.toArray false) y) Q s := mj (iM h)
theorem aK (h : Q .normal s) : cg P N n0 .skip Q s := yx h
theorem aT (h : Q .ret s) : cg P N n0 .ret Q s := wZ h
theorem aB {id : Nat} (h : cg P N n0 c (bY.inBlock id Q) s) : cg P N n0 (.block id c) Q s := BM h
theorem cf {f : FuncId} {fn : Func} {c : Code} {args : List AV} {K : AV → Prop} (hf : P.funcs[f]? = some fn) (h : cg P fn.ntmps 0 c (vZ P fn.results.toList K) ⟨kV 0 args, [], [], 0⟩) (hb : fn.body = some c := by rfl) (hn : (fn.name == "runtime.NumGoroutine") = false := by kernel_rfl)
 (hl : Nat.ble args.length fn.ntmps = true := by rfl) : ai P f args K := tE hf hb hn hl h
theorem nO {f : FuncId} {fn : Func} {c : Code} {m : Nat} {args : List AV} {H : List (Nat × Nat × AV)} {O : List (Nat × Kind)} {K : AV → List (Nat × Nat × AV) → List (Nat × Kind) → Nat → Prop}
 (hf : P.funcs[f]? = some fn) (h : cg P fn.ntmps m c (lH P m fn.results.toList K) ⟨kV 0 args, H, O, m⟩) (hb : fn.body = some c := by rfl) (hn : (fn.name == "runtime.NumGoroutine") = false := by kernel_rfl)
 (hl : Nat.ble args.length fn.ntmps = true := by rfl) : aP P f m args H O K := zo hf hb hn hl h
theorem aS (h : cg P N n0 x (bY.then (cg P N n0 y Q) Q) s) : cg P N n0 (.seq x y) Q s := mj h
end
def ww (P : Program) [dI P] (N : Nat) (ops : Array Oper) (H : List (Nat × Nat × AV)) (O : List (Nat × Kind)) (n : Nat) : Nat → List Oper → List (Nat × AV) → Option (List (Nat × AV) × List Oper)
 | 0, l, σ => some (σ, l)
 | k + 1, l, σ => match l with
  | ⟨some d, op, _, _, _, gd⟩ :: r => match Nat.blt d N with
   | true =>
        match gd with
    | none => match oF P ⟨σ, H, O, n⟩ op with
     | some v => v.nf fun v => ww P N ops H O n k r ((d, v) :: σ)
     | none => none
    | some (j, want) => match fq ops j with
     | some e => match Nat.blt e N with
      | true => match lk σ e with
       | .bool b => match b, want with
        | true, true => match oF P ⟨σ, H, O, n⟩ op with
         | some v => v.nf fun v => ww P N ops H O n k r ((d, v) :: σ)
         | none => none
        | false, false => match oF P ⟨σ, H, O, n⟩ op with
         | some v => v.nf fun v => ww P N ops H O n k r ((d, v) :: σ)
         | none => none
        | _, _ => ww P N ops H O n k r ((d, .tup []) :: σ)
       | .tup [] => ww P N ops H O n k r ((d, .tup []) :: σ)
       | _ => none
      | false => none
     | none => none
   | false => none
  | _ => none
section
variable {P : Program} [dI P] {N n0 : Nat} {Q : bY} {ops : Array Oper} {H : List (Nat × Nat × AV)} {O : List (Nat × Kind)} {n : Nat}
theorem iH :
  ∀ (k : Nat) {l rest : List Oper} {σ σ' : List (Nat × AV)}, ww P N ops H O n k l σ = some (σ', rest) → aM P N n0 ops rest Q ⟨σ', H, O, n⟩ → aM P N n0 ops l Q ⟨σ, H, O, n⟩
 | 0, l, rest, σ, σ', h, kk => by
  simp only [ww, Option.some.injEq, Prod.mk.injEq] at h
  obtain ⟨rfl, rfl⟩ := h
  exact kk
 | k + 1, l, rest, σ, σ', h, kk => by
  unfold ww at h
  split at h
  ·
   split at h
   ·
    rename_i hb
    split at h
    ·
     split at h
     ·
      rename_i v hv
      rw [AV.nf_eq] at h
      exact nU hb hv (iH k h kk)
     · cases h
    ·
     split at h
     ·
      rename_i hj
      split at h
      ·
       rename_i he
       split at h
       ·
        rename_i b hl
        split at h
        ·
         split at h
         ·
          rename_i v hv
          rw [AV.nf_eq] at h
          exact gy hj he hl (nU hb hv (iH k h kk))
         · cases h
        ·
         split at h
         ·
          rename_i v hv
          rw [AV.nf_eq] at h
          exact gy hj he hl (nU hb hv (iH k h kk))
         · cases h
        ·
         refine gn (w' := b) hj he hl ?_ hb (iH k h kk)
         cases b <;> simp_all
       ·
        rename_i hl
        exact gu hj he hl hb (iH k h kk)
       · cases h
      · cases h
     · cases h
   · cases h
  · cases h
theorem rg (k : Nat) {l rest : List Oper} {σ σ' : List (Nat × AV)}
 (h : ww P N ops H O n k l σ = some (σ', rest)) (kk : aM P N n0 ops rest Q ⟨σ', H, O, n⟩) : aM P N n0 ops l Q ⟨σ, H, O, n⟩ := iH k h kk
end
end Go.Pv
