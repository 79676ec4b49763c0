import Derived.Laws.Externs
import Derived.Lib.Bytealg
import Derived.JoinedCond
import Derived.Test.YtngeejjllgnpcaaPwD
/- Plain functions that may fail, and the rules by which a walk follows one of them. -/
namespace Go.Pv
set_option linter.unusedSectionVars false
set_option linter.unusedVariables false
set_option linter.unusedSimpArgs false

abbrev Str := List UInt8
def sB (l : Str) : ByteArray := ⟨l.toArray⟩
abbrev Er := Option Int
def capN : Nat := 68719476736

section
variable {α β ε τ : Type}
/-- The element at a place. -/
def gi (l : List α) (i : Int) : Option α := if 0 ≤ i then l[i.toNat]? else none
/-- What is from one place up to another one. -/
def gsl (l : List α) (lo hi : Int) : Option (List α) := if 0 ≤ lo ∧ lo ≤ hi ∧ hi ≤ l.length then some ((l.take hi.toNat).drop lo.toNat) else none
def ap (a b : List α) : Option (List α) := if a.length + b.length ≤ capN then some (a ++ b) else none
def cat (a b : Str) : Option Str := if a.length + b.length ≤ maxLen then some (a ++ b) else none
def cU8 (c : UInt8) : List AV := [.int .u8 (c.toNat : Int)]
def cI (k : IntKind) (n : Int) : List AV := [.int k n]
def cS (s : Str) : List AV := [.str (sB s)]
def cB (b : Bool) : List AV := [.bool b]
def cL (c : α → List AV) (l : List α) : List AV := [.sl (l.map c)]
abbrev shlV (k : IntKind) (a b : Int) : Int := k.wrap (a * 2 ^ min b.toNat k.bits)
abbrev shrV (k : IntKind) (a b : Int) : Int := a.fdiv (2 ^ min b.toNat k.bits)
def quoV (k : IntKind) (a b : Int) : Option Int := if b = 0 then none else some (k.wrap (a.tdiv b))
def remV (k : IntKind) (a b : Int) : Option Int := if b = 0 then none else some (a.tmod b)
def shlO (k : IntKind) (a b : Int) : Option Int := if b < 0 then none else some (shlV k a b)
def shrO (k : IntKind) (a b : Int) : Option Int := if b < 0 then none else some (shrV k a b)
def gd (p : Prop) [Decidable p] : Option Unit := if p then some () else none
def kS (o : ε ⊕ τ) (f : ε → Option τ) : Option τ := match o with
  | .inl e => f e
  | .inr t => some t
def loopD (body : ε → Option (ε ⊕ τ)) : Nat → ε → Option τ
  | 0, _ => none
  | n + 1, s => (body s).bind fun o => match o with
    | .inl s' => loopD body n s'
    | .inr e => some e

theorem bi {o : Option α} {f : α → Option β} {r : β} (h : o.bind f = some r) : ∃ v, o = some v ∧ f v = some r := by
  cases o with
  | none => cases h
  | some v => exact ⟨v, rfl, h⟩
theorem bs {e : α} {f : α → Option β} {r : β} (h : (some e).bind f = some r) : ∃ x, e = x ∧ f x = some r := ⟨e, rfl, h⟩
theorem cT {b : Bool} {x y : Option α} {r : α} (hb : b = true) (h : (bif b then x else y) = some r) : x = some r := by subst hb; exact h
theorem cF {b : Bool} {x y : Option α} {r : α} (hb : b = false) (h : (bif b then x else y) = some r) : y = some r := by subst hb; exact h
theorem ksr {t r : τ} {f : ε → Option τ} (h : kS (.inr t) f = some r) : t = r := Option.some.inj h
theorem ksl {e : ε} {r : τ} {f : ε → Option τ} (h : kS (.inl e) f = some r) : f e = some r := h
theorem gdh {p : Prop} [Decidable p] {u : Unit} (h : gd p = some u) : p := by
  unfold gd at h; split at h
  · assumption
  · cases h
theorem gi0 {l : List α} {i : Int} {x : α} (h : gi l i = some x) : 0 ≤ i := by
  unfold gi at h; split at h
  · assumption
  · cases h
theorem gi1 {l : List α} {i : Int} {x : α} (h : gi l i = some x) : l[i.toNat]? = some x := by
  unfold gi at h; split at h
  · exact h
  · cases h
theorem giM (c : α → List AV) {l : List α} {i : Int} {x : α} (h : gi l i = some x) : (l.map c)[i.toNat]? = some (c x) := by
  rw [List.getElem?_map, gi1 h]; rfl
theorem giL {l : List α} {i : Int} {x : α} (h : gi l i = some x) : i < l.length := by
  have := (List.getElem?_eq_some_iff.1 (gi1 h)).1
  have := gi0 h; omega
theorem apb {a b y : List α} (h : ap a b = some y) : a.length + b.length ≤ capN ∧ a ++ b = y := by
  unfold ap at h; split at h
  · exact ⟨by assumption, Option.some.inj h⟩
  · cases h
theorem apM (c : α → List AV) {a b y : List α} (h : ap a b = some y) : a.map c ++ b.map c = y.map c := by rw [← List.map_append, (apb h).2]
theorem apB {a b y : List α} {k : Nat} (c : α → List AV) (hk : Nat.ble k 2048 = true) (h : ap a b = some y) : ((a.map c).length + (b.map c).length) * k ≤ 140737488355328 := by
  have h1 := (apb h).1
  simp only [Nat.ble_eq] at hk
  rw [List.length_map, List.length_map]
  exact Nat.le_trans (Nat.mul_le_mul h1 hk) (by decide)
theorem wM {c : α → List AV} {z : Nat} (h : ∀ x, (c x).length = z) (l : List α) : Wide z (l.map c) := fun r hr => by
  obtain ⟨a, _, rfl⟩ := List.mem_map.1 hr; exact h a
theorem oM {c : α → List AV} (h : ∀ x, (c x).all AV.one = true) (l : List α) : Ones (l.map c) := fun r hr => by
  obtain ⟨a, _, rfl⟩ := List.mem_map.1 hr; exact h a
theorem lmM {c : α → List AV} (h : ∀ x, limL 0 (c x) = true) : ∀ l : List α, limLL 0 (l.map c) = true
  | [] => rfl
  | x :: l => by simp only [List.map_cons, limLL, h x, lmM h l, Bool.and_self]
theorem lM (c : α → List AV) (l : List α) : AV.int .i64 (((l.map c).length : Nat) : Int) = .int .i64 (l.length : Int) := by rw [List.length_map]
theorem gsb {l y : List α} {lo hi : Int} (h : gsl l lo hi = some y) : 0 ≤ lo ∧ lo ≤ hi ∧ hi ≤ l.length ∧ (l.take hi.toNat).drop lo.toNat = y := by
  unfold gsl at h; split at h
  · rename_i hc; exact ⟨hc.1, hc.2.1, hc.2.2, Option.some.inj h⟩
  · cases h
theorem drM (c : α → List AV) {l y : List α} {lo : Int} (h : gsl l lo l.length = some y) : (l.map c).drop lo.toNat = y.map c := by
  rw [← (gsb h).2.2.2, List.map_drop]; simp
theorem drL (c : α → List AV) {l y : List α} {lo : Int} (h : gsl l lo l.length = some y) : lo.toNat ≤ (l.map c).length := by
  rw [List.length_map]; have := gsb h; omega
theorem gsM (c : α → List AV) {l y : List α} {lo hi : Int} (h : gsl l lo hi = some y) : ((l.map c).take hi.toNat).drop lo.toNat = y.map c := by
  rw [← (gsb h).2.2.2, List.map_drop, List.map_take]
end

/-! ### texts -/

theorem toList_sB (l : Str) : (sB l).toList = l := by
  rw [ByteArray.toList_eq]; rfl
theorem sEq (a b : Str) : AV.bool ((sB a).toList == (sB b).toList) = .bool (a == b) := by rw [toList_sB, toList_sB]
theorem sNe (a b : Str) : AV.bool (!((sB a).toList == (sB b).toList)) = .bool (!(a == b)) := by rw [toList_sB, toList_sB]
theorem sLt (a b : Str) : AV.bool (Op.bytesLess (sB a).toList (sB b).toList) = .bool (Op.bytesLess a b) := by rw [toList_sB, toList_sB]
theorem sGe (a b : Str) : AV.bool (!Op.bytesLess (sB a).toList (sB b).toList) = .bool (!Op.bytesLess a b) := by rw [toList_sB, toList_sB]
theorem sLe (a b : Str) : AV.bool (Op.bytesLess (sB a).toList (sB b).toList || (sB a).toList == (sB b).toList) = .bool (Op.bytesLess a b || a == b) := by rw [toList_sB, toList_sB]
theorem sGt (a b : Str) : AV.bool (!(Op.bytesLess (sB a).toList (sB b).toList || (sB a).toList == (sB b).toList)) = .bool (!(Op.bytesLess a b || a == b)) := by rw [toList_sB, toList_sB]
theorem sB_cat (a b : Str) : sB a ++ sB b = sB (a ++ b) := by
  apply ByteArray.ext
  simp [sB]
theorem sB_ext (b : Str) (l h : Nat) : (sB b).extract l h = sB ((b.take h).drop l) := by
  apply ByteArray.ext
  simp [sB, ByteArray.data_extract, List.extract_toArray, List.extract_eq_take_drop, List.drop_take]

section
variable {P : Program} [Tab P] {N n0 : Nat} {Q : Post} {ops : Array Oper} {rest : List Oper} {σ : List (Nat × AV)} {H H2 A : List (Nat × Nat × AV)} {O O2 : List (Nat × Kind)} {n n2 i : Nat}
  {d : Nat} {op : Op} {ty : TypeId} {pos : String} {af : Array Edge} {gd : Option (Nat × Bool)} {s : St} {c : Code}

/-- A slot told otherwise. -/
theorem rt {v v' : AV} (h : v = v') (k : aops P N n0 ops rest Q ⟨(d, v') :: σ, H, O, n⟩) : aops P N n0 ops rest Q ⟨(d, v) :: σ, H, O, n⟩ := h ▸ k
theorem ei' {k : IntKind} {a b : Int} (h : a = b) : AV.int k a = .int k b := by rw [h]
theorem eb' {a b : Bool} (h : a = b) : AV.bool a = .bool b := by rw [h]
theorem es' {a b : Str} (h : a = b) : AV.str (sB a) = .str (sB b) := by rw [h]
/-- A thing of the call's own told otherwise. -/
theorem rk {i : Nat} {K K' : Kind} (h : K = K') (k : aops P N n0 ops rest Q ⟨σ, H, (i, K') :: O, n⟩) : aops P N n0 ops rest Q ⟨σ, H, (i, K) :: O, n⟩ := h ▸ k

def bndI (s : St) (d : Int) : Option Operand → Int → Prop
  | none, v => v = d
  | some x, v => ∃ k, ev s.σ x = .int k v
theorem bndI_nat {d : Nat} {lo : Option Operand} {v : Int} (h : bndI s d lo v) (h0 : 0 ≤ v) : bnd s d lo v.toNat := by
  cases lo with
  | none => simp only [bndI] at h; subst h; simp [bnd]
  | some x => obtain ⟨k, h⟩ := h; exact ⟨k, by rw [h, Int.toNat_of_nonneg h0]⟩

theorem va_sidx {t : TypeId} {x ix : Operand} {b : Str} {k : IntKind} {iv : Int} {j : TI} {e : UInt8} (ht : ti P t = some j) (hk : j.k = .str) (hx : evs s x = .str (sB b)) (hi : ev s.σ ix = .int k iv) (h : gi b iv = some e) :
    ValAt P N n0 s (.index t x ix) (.int .u8 (e.toNat : Int)) := by
  have h1 := giL h
  refine va_eq (va_index ht hk hx hi (gi0 h) h1) ?_
  have := gi1 h
  show AV.int .u8 (((((sB b).data.toList)[iv.toNat]?).map fun c => (c.toNat : Int)).getD 0) = _
  rw [show (sB b).data.toList = b from rfl, this]; rfl
theorem va_textS {src dst' e : TypeId} {x : Operand} {l : Str} {j je jd : TI} (ht : ti P src = some j) (hk : j.k = .slice e) (he : ti P e = some je) (hke : je.k = .int .u8) (hz : Nat.beq je.size 1 = true) (hd : ti P dst' = some jd) (hkd : jd.k = .str)
    (hx : evs s x = .sl (l.map cU8)) : ValAt P N n0 s (.convert src dst' x) (.str (sB l)) := va_text (b := sB l) ht hk he hke hz hd hkd hx
theorem va_ssub {t : TypeId} {x : Operand} {lo hi : Option Operand} {b y : Str} {l h : Int} {j : TI} (ht : ti P t = some j) (hk : j.k = .str) (hx : evs s x = .str (sB b)) (hlo : bndI s 0 lo l) (hhi : bndI s b.length hi h) (hg : gsl b l h = some y) :
    ValAt P N n0 s (.slice t x lo hi none) (.str (sB y)) := by
  obtain ⟨h0, h1, h2, h3⟩ := gsb hg
  have := va_substr (N := N) (n0 := n0) ht hk hx (bndI_nat hlo h0) (bndI_nat (d := b.length) hhi (by omega)) (by omega) (show h.toNat ≤ (sB b).size by show h.toNat ≤ b.length; omega)
  rw [sB_ext, h3] at this; exact this
theorem va_scat {t y2 : TypeId} {x y : Operand} {b c z : Str} (hx : evs s x = .str (sB b)) (hy : evs s y = .str (sB c)) (h : cat b c = some z) : ValAt P N n0 s (.binOp .add t x y y2) (.str (sB z)) := by
  unfold cat at h; split at h
  · rename_i hl
    have := va_cat (P := P) (N := N) (n0 := n0) (t := t) (y2 := y2) hx hy hl
    rw [sB_cat, Option.some.inj h] at this; exact this
  · cases h
theorem va_slsub {t e : TypeId} {x : Operand} {lo hi : Option Operand} {α : Type} {c : α → List AV} {b y : List α} {l h : Int} {j je : TI} (ht : ti P t = some j) (hk : j.k = .slice e) (he : ti P e = some je) (hx : evs s x = .sl (b.map c)) (hlo : bndI s 0 lo l) (hhi : bndI s b.length hi h) (hg : gsl b l h = some y) (hw : ∀ x, (c x).length = je.size) :
    ValAt P N n0 s (.slice t x lo hi none) (.sl (y.map c)) := by
  obtain ⟨h0, h1, h2, h3⟩ := gsb hg
  have := va_sub (N := N) (n0 := n0) (l := l.toNat) (h := h.toNat) ht hk he hx (bndI_nat hlo h0) (by rw [List.length_map]; exact bndI_nat hhi (by omega)) (by omega) (by rw [List.length_map]; omega) (wM hw b)
  rw [gsM c hg] at this; exact this

section
variable {t t2 : TypeId} {x y : Operand} {k : IntKind} {a b z : Int}
theorem va_quo (hx : evs s x = .int k a) (hy : evs s y = .int k b) (h : quoV k a b = some z) : ValAt P N n0 s (.binOp .quo t x y t2) (.int k z) := by
  intro o ho w0 g0 u w g hi
  refine opv_sound hi ?_
  rw [ho]; unfold quoV at h; split at h
  · cases h
  · rename_i h0; obtain rfl := Option.some.inj h; simp [opv, hx, hy, binv, isSh, intv, h0]
theorem va_rem (hx : evs s x = .int k a) (hy : evs s y = .int k b) (h : remV k a b = some z) : ValAt P N n0 s (.binOp .rem t x y t2) (.int k z) := by
  intro o ho w0 g0 u w g hi
  refine opv_sound hi ?_
  rw [ho]; unfold remV at h; split at h
  · cases h
  · rename_i h0; obtain rfl := Option.some.inj h; simp [opv, hx, hy, binv, isSh, intv, h0]
theorem va_shl {k' : IntKind} (hx : evs s x = .int k a) (hy : evs s y = .int k' b) (h : shlO k a b = some z) : ValAt P N n0 s (.binOp .shl t x y t2) (.int k z) := by
  intro o ho w0 g0 u w g hi
  refine opv_sound hi ?_
  rw [ho]; unfold shlO at h; split at h
  · cases h
  · rename_i h0; obtain rfl := Option.some.inj h; simp [opv, hx, hy, binv, isSh, shv, h0]
theorem va_shr {k' : IntKind} (hx : evs s x = .int k a) (hy : evs s y = .int k' b) (h : shrO k a b = some z) : ValAt P N n0 s (.binOp .shr t x y t2) (.int k z) := by
  intro o ho w0 g0 u w g hi
  refine opv_sound hi ?_
  rw [ho]; unfold shrO at h; split at h
  · cases h
  · rename_i h0; obtain rfl := Option.some.inj h; simp [opv, hx, hy, binv, isSh, shv, h0]
end
/-! ### errors -/

def errK (t : TypeId) : Er → AV
  | none => .nilI
  | some c => .iface t (.int .i64 c)
theorem err_rep {w : World} {g : G} {t : TypeId} {e : Er} {v : Value} : Rep w g (.err t e) v ↔ Rep w g (errK t e) v := by
  cases e with
  | none => exact Iff.rfl
  | some c =>
    constructor
    · intro h; exact ⟨_, h, rfl⟩
    · rintro ⟨y, h, rfl⟩; exact h
theorem va_err {s : St} {k : Nat} {u : TypeId} {e : Er} {op : Op} {v : AV} (hs : lk s.σ k = .err u e) (h : ValAt P N n0 ⟨(k, errK u e) :: s.σ, s.H, s.O, s.n⟩ op v) : ValAt P N n0 s op v := by
  intro o ho w0 g0 a w g hi
  refine h o ho w0 g0 a w g (hi.putS (err_rep.1 ?_))
  have := hi.slots k; rw [hs] at this; exact this
theorem evs_errK {s : St} {k : Nat} {u : TypeId} {e : Er} : evs ⟨(k, errK u e) :: s.σ, s.H, s.O, s.n⟩ (.tmp k) = errK u e := by cases e <;> simp [evs, ev, lk, snap, errK]
theorem va_enil {s : St} {k : Nat} {t u t2 : TypeId} {e : Er} {i : TI} {b : Bool} (ht : ti P t = some i) (hk : i.k = .iface b) (hx : lk s.σ k = .err u e) : ValAt P N n0 s (.binOp .eql t (.tmp k) (.const .nilIface) t2) (.bool e.isNone) := va_err hx (by
  intro o ho w0 g0 a w g hi
  refine opv_sound hi ?_
  rw [ho]
  have hx' := evs_errK (s := s) (k := k) (u := u) (e := e)
  have hy : evs ⟨(k, errK u e) :: s.σ, s.H, s.O, s.n⟩ (.const .nilIface) = .nilI := rfl
  cases e <;> (simp only [opv, hx', hy]; simp [errK, binv, eqv, ht, hk, eqI, isC]))
theorem va_ennil {s : St} {k : Nat} {t u t2 : TypeId} {e : Er} {i : TI} {b : Bool} (ht : ti P t = some i) (hk : i.k = .iface b) (hx : lk s.σ k = .err u e) : ValAt P N n0 s (.binOp .neq t (.tmp k) (.const .nilIface) t2) (.bool e.isSome) := va_err hx (by
  intro o ho w0 g0 a w g hi
  refine opv_sound hi ?_
  rw [ho]
  have hx' := evs_errK (s := s) (k := k) (u := u) (e := e)
  have hy : evs ⟨(k, errK u e) :: s.σ, s.H, s.O, s.n⟩ (.const .nilIface) = .nilI := rfl
  cases e <;> (simp only [opv, hx', hy]; simp [errK, binv, eqv, ht, hk, eqI, isC]))
theorem va_eeq {s : St} {k : Nat} {t u t2 : TypeId} {y : Operand} {e : Er} {c : Int} {i j : TI} {b : Bool} (ht : ti P t = some i) (hk : i.k = .iface b) (hu : ti P u = some j) (hc : j.cmp = true) (hj : j.k = .int .i64) (hx : lk s.σ k = .err u e) (hy : ∀ v, evs ⟨(k, v) :: s.σ, s.H, s.O, s.n⟩ y = .iface u (.int .i64 c)) :
    ValAt P N n0 s (.binOp .eql t (.tmp k) y t2) (.bool (e == some c)) := va_err hx (by
  intro o ho w0 g0 a w g hi
  refine opv_sound hi ?_
  rw [ho]
  have hx' := evs_errK (s := s) (k := k) (u := u) (e := e)
  cases e <;> (simp only [opv, hx', hy]; simp [errK, binv, eqv, ht, hk, eqI, hu, hc, hj]))
theorem va_ene {s : St} {k : Nat} {t u t2 : TypeId} {y : Operand} {e : Er} {c : Int} {i j : TI} {b : Bool} (ht : ti P t = some i) (hk : i.k = .iface b) (hu : ti P u = some j) (hc : j.cmp = true) (hj : j.k = .int .i64) (hx : lk s.σ k = .err u e) (hy : ∀ v, evs ⟨(k, v) :: s.σ, s.H, s.O, s.n⟩ y = .iface u (.int .i64 c)) :
    ValAt P N n0 s (.binOp .neq t (.tmp k) y t2) (.bool (!(e == some c))) := va_err hx (by
  intro o ho w0 g0 a w g hi
  refine opv_sound hi ?_
  rw [ho]
  have hx' := evs_errK (s := s) (k := k) (u := u) (e := e)
  cases e <;> (simp only [opv, hx', hy]; simp [errK, binv, eqv, ht, hk, eqI, hu, hc, hj]))
/-- What an error is, told as an error. -/
theorem err_slot (t : TypeId) (k : Nat) (c : Er) {σ : List (Nat × AV)} {H : List (Nat × Nat × AV)} {O : List (Nat × Kind)} {n : Nat} {w0 : World} {g0 : G} {a : Act} {w : World} {g : G} (h : lk σ k = errK t c) (hi : Inv N n0 w0 g0 ⟨σ, H, O, n⟩ a w g) :
    ∃ g', Inv N n0 w0 g0 ⟨(k, .err t c) :: σ, H, O, n⟩ a w g' := by
  refine ⟨g, hi.putS (v := .err t c) (err_rep.2 ?_)⟩
  have := hi.slots k; rw [show lk (St.mk σ H O n).σ k = _ from h] at this; exact this
theorem err_cell (t : TypeId) (id off : Nat) (c : Er) {σ : List (Nat × AV)} {H : List (Nat × Nat × AV)} {O : List (Nat × Kind)} {n : Nat} {w0 : World} {g0 : G} {a : Act} {w : World} {g : G} (h : lkH H id off = some (errK t c)) (hi : Inv N n0 w0 g0 ⟨σ, H, O, n⟩ a w g) :
    ∃ g', Inv N n0 w0 g0 ⟨σ, (id, off, .err t c) :: H, O, n⟩ a w g' := by
  refine ⟨g, { hi with cells := fun i p x hx => ?_ }⟩
  simp only [lkH] at hx
  split at hx
  · rename_i hc
    simp only [Bool.and_eq_true, Nat.beq_eq] at hc
    obtain ⟨rfl, rfl⟩ := hc
    obtain rfl := Option.some.inj hx
    obtain ⟨b, cc, e, hb, hw, v, hv, r⟩ := hi.cells id off _ h
    exact ⟨b, cc, e, hb, hw, v, hv, err_rep.2 r⟩
  · exact hi.cells i p x hx
/-- What a call that was handed things told is put in. -/
theorem ek {X : AV} {Y : List (Nat × Nat × AV)} {Z : List (Nat × Kind)} {W : Nat} {F : AV → List (Nat × Nat × AV) → List (Nat × Kind) → Nat → Prop} (h : F X Y Z W) : ∀ r H O n, (r = X ∧ H = Y ∧ O = Z ∧ n = W) → F r H O n := by
  rintro _ _ _ _ ⟨rfl, rfl, rfl, rfl⟩; exact h
/-! ### things that may be there -/
def oP {α : Type} (o : Option α) (m : Nat) : AV := match o with | none => .nilp | some _ => .ptr m 0
def oL {α β : Type} (o : Option α) (f : α → List β) : List β := match o with | none => [] | some x => f x
def oN {α : Type} (o : Option α) (a b : Nat) : Nat := match o with | none => a | some _ => b

/-! ### what comes together, and loops -/

def Post.cut {ε : Type} (n0 : Nat) (R : ε → Prop) (inv : ε → St) (Q : Post) : Post
  | .normal, s => ∃ e, R e ∧ ∃ L, keepsTo n0 L 0 = true ∧ SubR L s (inv e)
  | ex, s => Q ex s

theorem awp_cut {x y : Code} {ε : Type} (R : ε → Prop) (inv : ε → St) (hx : awp P N n0 x (Post.cut n0 R inv Q) s) (hy : ∀ e, R e → awp P N n0 y Q (inv e)) : awp P N n0 (.seq x y) Q s := by
  refine awp_seq (awp_mono hx ?_)
  intro ex s' h
  cases ex with
  | normal =>
    obtain ⟨e, hR, L, hk, hs⟩ := h
    exact awp_ren hs hk (hy e hR)
  | _ => exact h
theorem cut_n {ε : Type} {R : ε → Prop} {inv : ε → St} {e : ε} (L : List Nat) (hR : R e) (hk : keepsTo n0 L 0 = true) (hs : SubR L s (inv e)) : Post.cut n0 R inv Q .normal s := ⟨e, hR, L, hk, hs⟩

theorem awp_loopD {S E : Type} {body : S → Option (S ⊕ E)} {m : Nat} {v0 : S} {e : E} (h : loopD body m v0 = some e) (inv : S → St) (L0 : List Nat) (hk : keepsTo n0 L0 0 = true) (hs : SubR L0 s (inv v0))
    (round : ∀ v o, body v = some o → (∀ e', o = .inr e' → e' = e) → awp P N n0 c (Post.then (fun s' => ∃ v', o = .inl v' ∧ ∃ L, keepsTo n0 L 0 = true ∧ SubR L s' (inv v')) Q) (inv v)) : awp P N n0 (.loop c) Q s := by
  refine awp_loopR (ι := Nat × S) (fun i => inv i.2) (fun i => loopD body i.1 i.2 = some e) (fun i => i.1) (m, v0) h ⟨L0, hk, hs⟩ ?_
  rintro ⟨k, v⟩ hg
  cases k with
  | zero => cases hg
  | succ k =>
    obtain ⟨o, ho, h2⟩ := bi hg
    refine awp_mono (round v o ho fun e' he => ?_) ?_
    · subst he; exact Option.some.inj h2
    · intro ex s' h3
      cases ex with
      | normal =>
        obtain ⟨v', rfl, L, hk', hs'⟩ := h3
        exact ⟨(k, v'), h2, Nat.lt_succ_self _, L, hk', hs'⟩
      | _ => exact h3
theorem lp_n {S E : Type} {o : S ⊕ E} {inv : S → St} {v : S} (L : List Nat) (ho : o = .inl v) (hk : keepsTo n0 L 0 = true) (hs : SubR L s (inv v)) :
    Post.then (fun s' => ∃ v', o = .inl v' ∧ ∃ L, keepsTo n0 L 0 = true ∧ SubR L s' (inv v')) Q .normal s := ⟨v, ho, L, hk, hs⟩

theorem zA {L : List Nat} {t : Nat} {v x : AV} {r : List (Nat × AV)} (h : lk σ t = x) (e : x = v.ren (rho L 0)) (hl : v.lim L.length = true) (k : SubSR σ O L r) : SubSR σ O L ((t, v) :: r) := ⟨⟨.inl (h.trans e), hl⟩, k⟩
theorem zB {L : List Nat} {t : Nat} {v : AV} {r : List (Nat × AV)} (h : snap O (lk σ t) = v.ren (rho L 0)) (hl : v.lim L.length = true) (k : SubSR σ O L r) : SubSR σ O L ((t, v) :: r) := ⟨⟨.inr h, hl⟩, k⟩
theorem zC {L : List Nat} {i o : Nat} {v x : AV} {r : List (Nat × Nat × AV)} (h : lkH H (rho L 0 i) o = some x) (e : x = v.ren (rho L 0)) (hl : v.lim L.length = true) (hi : Nat.blt i L.length = true) (k : SubHR H O L r) : SubHR H O L ((i, o, v) :: r) := ⟨⟨⟨x, h, .inl e⟩, hl, hi⟩, k⟩
theorem zD {L : List Nat} {i o : Nat} {v x : AV} {r : List (Nat × Nat × AV)} (h : lkH H (rho L 0 i) o = some x) (e : snap O x = v.ren (rho L 0)) (hl : v.lim L.length = true) (hi : Nat.blt i L.length = true) (k : SubHR H O L r) : SubHR H O L ((i, o, v) :: r) := ⟨⟨⟨x, h, .inr e⟩, hl, hi⟩, k⟩
theorem zE {L : List Nat} {i : Nat} {K K' : Kind} {r : List (Nat × Kind)} (h : lkO O (rho L 0 i) = some K') (hr : KR (rho L 0) L.length K K') (hi : Nat.blt i L.length = true) (k : SubOR O L r) : SubOR O L ((i, K) :: r) := ⟨⟨⟨K', h, hr⟩, hi⟩, k⟩
end
end Go.Pv
namespace Go.Pv
set_option linter.unusedSectionVars false
set_option linter.unusedVariables false
section
variable {P : Program} [Tab P] {N n0 : Nat} {Q : Post} {ops : Array Oper} {rest : List Oper} {σ : List (Nat × AV)} {H H2 A : List (Nat × Nat × AV)} {O O2 : List (Nat × Kind)} {n n2 i : Nat}
  {d : Nat} {op : Op} {ty : TypeId} {pos : String} {af : Array Edge} {gd : Option (Nat × Bool)} {s : St} {c : Code}
theorem cut_r {ε : Type} {R : ε → Prop} {inv : ε → St} (h : Q .ret s) : Post.cut n0 R inv Q .ret s := h
theorem cut_x {ε : Type} {R : ε → Prop} {inv : ε → St} {id : Nat} (h : Q (.exit id) s) : Post.cut n0 R inv Q (.exit id) s := h
theorem awp_cut1 {x : Code} {ε : Type} (R : ε → Prop) (inv : ε → St) (hx : awp P N n0 x (Post.cut n0 R inv Q) s) (hy : ∀ e, R e → Q .normal (inv e)) : awp P N n0 x Q s := by
  intro w0 g0 a w g hi
  refine wp_mono (hx w0 g0 a w g hi) ?_
  rintro ex a' w' ⟨s', g', hq, hi'⟩
  cases ex with
  | normal =>
    obtain ⟨e, hR, L, hk, hs⟩ := hq
    exact ⟨inv e, _, hy e hR, hi'.ren hs hk⟩
  | _ => exact ⟨s', g', hq, hi'⟩
/-- A slot told otherwise. -/
theorem dt {K : St → Prop} {v v' : AV} (h : v = v') (k : DP P N n0 ops H O i rest ((d, v') :: σ) n A K) : DP P N n0 ops H O i rest ((d, v) :: σ) n A K := h ▸ k
/-- What a function that is handed in has captured. -/
structure Cl (cs : List AV) : Prop where
  lim : limL 0 cs = true
  snap : ∀ O, snapL O cs = cs
/-- A call whose arguments are told otherwise. -/
theorem rcE {fop : Operand} {args : Array Operand} {ats : Array TypeId} {f : FuncId} {as : List AV} {r : AV} (hd : Nat.blt d N = true) (hf : ev σ fop = .fn f []) (ha : args.toList.map (evs ⟨σ, H, O, n⟩) = as) (hl : limL 0 as = true)
    (call : PCall P f as (· = r)) (k : aops P N n0 ops rest Q ⟨(d, r) :: σ, H, O, n⟩) : aops P N n0 ops (⟨some d, .call ⟨.value fop, args, ats⟩, ty, pos, af, none⟩ :: rest) Q ⟨σ, H, O, n⟩ := by
  subst ha
  exact rc (K := (· = r)) (caps := []) hd hf (by rw [limL_append, hl]; rfl) (by rw [List.append_nil]; exact call) fun _ e => e ▸ k
/-- A call of a function that is handed in. -/
theorem rcf {fop : Operand} {args : Array Operand} {ats : Array TypeId} {f : FuncId} {caps : List AV} {r : AV} (hd : Nat.blt d N = true) (hf : ev σ fop = .fn f caps) (hl : Cl caps)
    (hc : limL 0 (args.toList.map (evs ⟨σ, H, O, n⟩)) = true) (call : PCall P f (args.toList.map (evs ⟨σ, H, O, n⟩) ++ caps) (· = r)) (k : aops P N n0 ops rest Q ⟨(d, r) :: σ, H, O, n⟩) :
    aops P N n0 ops (⟨some d, .call ⟨.value fop, args, ats⟩, ty, pos, af, none⟩ :: rest) Q ⟨σ, H, O, n⟩ :=
  rc (K := (· = r)) hd hf (by rw [limL_append, hc, hl.lim]; rfl) call fun _ e => e ▸ k
end
end Go.Pv

/- Functions of Go's library that have no text in Go. -/
namespace Go.Pv
set_option linter.unusedSectionVars false
set_option linter.unusedVariables false
set_option linter.unusedSimpArgs false
section
variable {P : Program} [Tab P] {N n0 : Nat} {s : St}
theorem va_cmp {f : FuncId} {fn : Func} {ats : Array TypeId} {x y : Operand} {a b : Str} (hf : P.funcs[f]? = some fn) (hname : (fn.name == "runtime.NumGoroutine") = false) (hb : fn.body.isNone = true) (hn : Extern.findNext fn = none)
    (he : Extern.find fn = some Extern.BytealgCompare.compare) (hx : ev s.σ x = .str (sB a)) (hy : ev s.σ y = .str (sB b)) : ValAt P N n0 s (.call ⟨.value (.func f), #[x, y], ats⟩) (.int .i64 (Lib.compareBytes a b)) := by
  rintro ⟨dst, op, type, pos, after, guard⟩ rfl w0 g0 u w g hi
  have h1 : u.eval x = .string (sB a) := by have := rep_ev hi.slots x; rw [hx] at this; exact this
  have h2 : u.eval y = .string (sB b) := by have := rep_ev hi.slots y; rw [hy] at this; exact this
  refine ⟨.int .i64 (Lib.compareBytes a b), ?_, rfl⟩
  simp only [execOp, resolve, Act.eval, Deferred.ofValue, Sem.run_bind, Sem.run_pure, Result.andThen_ok, invoke]
  have e : (#[] ++ #[x, y].map u.eval) = #[Value.string (sB a), .string (sB b)] := by simp [h1, h2]
  rw [e, Array.append_empty, run_callFunc_extern hf hname hb hn he, Lib.run_compareString]
  rfl
end
end Go.Pv

/- Regions that draw their order and change things: what is done to one thing is done in the text's order; all else in any. -/
namespace Go.Pv
open Go.RowKit (Below)
set_option linter.unusedSimpArgs false
set_option linter.unusedSectionVars false
set_option linter.unusedVariables false

/-! ### a part of what is known, and back -/

def rH (R : List Nat) : List (Nat × Nat × AV) → List (Nat × Nat × AV)
  | [] => []
  | e :: r => if (idx R e.1).isSome then e :: rH R r else rH R r
def rO (R : List Nat) : List (Nat × Kind) → List (Nat × Kind)
  | [] => []
  | e :: r => if (idx R e.1).isSome then e :: rO R r else rO R r

theorem lkH_rH {R : List Nat} {i o : Nat} : ∀ {H : List (Nat × Nat × AV)}, (idx R i).isSome = true → lkH (rH R H) i o = lkH H i o
  | [], _ => rfl
  | (j, p, v) :: r, h => by
    simp only [rH]
    by_cases hj : (idx R j).isSome = true
    · rw [if_pos hj]; simp only [lkH]; rw [lkH_rH h]
    · rw [if_neg hj, lkH_rH h]
      simp only [lkH]
      rw [if_neg]
      simp only [Bool.and_eq_true, Nat.beq_eq]
      rintro ⟨rfl, _⟩; exact hj h
theorem lkH_rH_some {R : List Nat} {i o : Nat} {x : AV} : ∀ {H : List (Nat × Nat × AV)}, lkH (rH R H) i o = some x → (idx R i).isSome = true
  | [], h => by simp [rH, lkH] at h
  | (j, p, v) :: r, h => by
    simp only [rH] at h
    by_cases hj : (idx R j).isSome = true
    · rw [if_pos hj] at h
      simp only [lkH] at h
      split at h
      · rename_i hc; simp only [Bool.and_eq_true, Nat.beq_eq] at hc; rw [← hc.1]; exact hj
      · exact lkH_rH_some h
    · rw [if_neg hj] at h; exact lkH_rH_some h
theorem lkO_rO {R : List Nat} {i : Nat} : ∀ {O : List (Nat × Kind)}, (idx R i).isSome = true → lkO (rO R O) i = lkO O i
  | [], _ => rfl
  | (j, v) :: r, h => by
    simp only [rO]
    by_cases hj : (idx R j).isSome = true
    · rw [if_pos hj]; simp only [lkO]; rw [lkO_rO h]
    · rw [if_neg hj, lkO_rO h]
      simp only [lkO]
      rw [if_neg]
      simp only [Nat.beq_eq]
      rintro rfl; exact hj h
theorem lkO_rO_some {R : List Nat} {i : Nat} {x : Kind} : ∀ {O : List (Nat × Kind)}, lkO (rO R O) i = some x → (idx R i).isSome = true
  | [], h => by simp [rO, lkO] at h
  | (j, v) :: r, h => by
    simp only [rO] at h
    by_cases hj : (idx R j).isSome = true
    · rw [if_pos hj] at h
      simp only [lkO] at h
      split at h
      · rename_i hc; simp only [Nat.beq_eq] at hc; rw [← hc]; exact hj
      · exact lkO_rO_some h
    · rw [if_neg hj] at h; exact lkO_rO_some h

theorem lkH_app {A B : List (Nat × Nat × AV)} {i o : Nat} : lkH (A ++ B) i o = match lkH A i o with | some x => some x | none => lkH B i o := by
  induction A with
  | nil => rfl
  | cons e r ih =>
    obtain ⟨j, p, v⟩ := e
    simp only [List.cons_append, lkH]
    split
    · rfl
    · exact ih
theorem lkO_app {A B : List (Nat × Kind)} {i : Nat} : lkO (A ++ B) i = match lkO A i with | some x => some x | none => lkO B i := by
  induction A with
  | nil => rfl
  | cons e r ih =>
    obtain ⟨j, v⟩ := e
    simp only [List.cons_append, lkO]
    split
    · rfl
    · exact ih
theorem lkH_dropH' {L : List Nat} {i o : Nat} : ∀ {H : List (Nat × Nat × AV)}, idx L i = none → lkH (dropH L H) i o = lkH H i o
  | [], _ => rfl
  | (j, p, v) :: r, h => by
    simp only [dropH]
    by_cases hj : (idx L j).isNone = true
    · rw [if_pos hj]; simp only [lkH]; rw [lkH_dropH' h]
    · rw [if_neg hj, lkH_dropH' h]
      simp only [lkH]
      rw [if_neg]
      simp only [Bool.and_eq_true, Nat.beq_eq]
      rintro ⟨rfl, _⟩; exact hj (by simp [h])
theorem lkO_dropO' {L : List Nat} {i : Nat} : ∀ {O : List (Nat × Kind)}, idx L i = none → lkO (dropO L O) i = lkO O i
  | [], _ => rfl
  | (j, v) :: r, h => by
    simp only [dropO]
    by_cases hj : (idx L j).isNone = true
    · rw [if_pos hj]; simp only [lkO]; rw [lkO_dropO' h]
    · rw [if_neg hj, lkO_dropO' h]
      simp only [lkO]
      rw [if_neg]
      simp only [Nat.beq_eq]
      rintro rfl; exact hj (by simp [h])

/-- The ghosts of some things alone. -/
def only (g : G) (R : List Nat) : G where
  blk i := if (idx R i).isSome then g.blk i else none
  own i := if (idx R i).isSome then g.own i else none
  wd i := if (idx R i).isSome then g.wd i else 0
  owner b := match g.owner b with
    | some i => if (idx R i).isSome then some i else none
    | none => none
  top := g.top

def mrg (g gc : G) (R : List Nat) (n n1 : Nat) : G where
  blk i := if (idx R i).isSome || (Nat.ble n i && Nat.blt i n1) then gc.blk i else g.blk i
  own i := if (idx R i).isSome || (Nat.ble n i && Nat.blt i n1) then gc.own i else g.own i
  wd i := if (idx R i).isSome || (Nat.ble n i && Nat.blt i n1) then gc.wd i else g.wd i
  owner b := match gc.owner b with
    | some j => if (idx R j).isSome || (Nat.ble n j && Nat.blt j n1) then some j else none
    | none => match g.owner b with
      | some i => if (idx R i).isSome then none else some i
      | none => none
  top := gc.top

mutual
def AV.inR (R : List Nat) : AV → Bool
  | .ptr id _ => (idx R id).isSome
  | .own id => (idx R id).isSome
  | .eptr id _ _ => (idx R id).isSome
  | .via id _ => (idx R id).isSome
  | .iface _ x => AV.inR R x
  | .fn _ cs | .bfn _ cs | .agg cs | .tup cs => inRL R cs
  | _ => true
def inRL (R : List Nat) : List AV → Bool
  | [] => true
  | x :: r => AV.inR R x && inRL R r
end

mutual
theorem Rep.only {w : World} {g : G} (R : List Nat) : ∀ (x : AV) (v : Value), x.inR R = true → Rep w g x v → Rep w (only g R) x v
  | .any, _, _, _ => trivial
  | .bool _, _, _, r => r
  | .int _ _, _, _, r => r
  | .str _, _, _, r => r
  | .nilp, _, _, r => r
  | .nilS, _, _, r => r
  | .nilM, _, _, r => r
  | .ptr id _, _, h, ⟨b, hb, e⟩ => by
    have hi : (idx R id).isSome = true := by simpa [AV.inR] using h
    exact ⟨b, by simp [Go.Pv.only, hi, hb], e⟩
  | .rd _, _, _, r => r
  | .sl _, _, _, r => r
  | .own id, v, h, r => by
    have hi : (idx R id).isSome = true := by simpa [AV.inR] using h
    have hr : g.own id = some v := r
    show (Go.Pv.only g R).own id = some v
    simp [Go.Pv.only, hi, hr]
  | .eptr id _ _, v, h, ⟨ad, l, cap, e, r⟩ => by
    have hi : (idx R id).isSome = true := by simpa [AV.inR] using h
    exact ⟨ad, l, cap, by simp [Go.Pv.only, hi, e], by simpa [Go.Pv.only, hi] using r⟩
  | .via id _, v, h, ⟨u, e, r⟩ => by
    have hi : (idx R id).isSome = true := by simpa [AV.inR] using h
    exact ⟨u, by simp [Go.Pv.only, hi, e], by simpa [Go.Pv.only, hi] using r⟩
  | .raw _, _, _, r => r
  | .nilI, _, _, r => r
  | .err _ _, _, _, r => r
  | .iface _ x, _, h, ⟨y, e, r⟩ => ⟨y, e, Rep.only R x y (by simpa [AV.inR] using h) r⟩
  | .nilF, _, _, r => r
  | .fn _ cs, _, h, ⟨vs, e, r⟩ => ⟨vs, e, RepL.only R cs vs (by simpa [AV.inR] using h) r⟩
  | .bfn _ cs, _, h, ⟨vs, e, r⟩ => ⟨vs, e, RepL.only R cs vs (by simpa [AV.inR] using h) r⟩
  | .agg cs, _, h, ⟨vs, e, r⟩ => ⟨vs, e, RepL.only R cs vs (by simpa [AV.inR] using h) r⟩
  | .tup cs, _, h, ⟨vs, e, r⟩ => ⟨vs, e, RepL.only R cs vs (by simpa [AV.inR] using h) r⟩
theorem RepL.only {w : World} {g : G} (R : List Nat) : ∀ (cs : List AV) (vs : List Value), inRL R cs = true → RepL w g cs vs → RepL w (only g R) cs vs
  | [], _, _, r => r
  | x :: cs, _, h, ⟨v, vs', e, r, rest⟩ => by
    simp only [inRL, Bool.and_eq_true] at h
    exact ⟨v, vs', e, Rep.only R x v h.1 r, RepL.only R cs vs' h.2 rest⟩
end

def inRLL (R : List Nat) : List (List AV) → Bool
  | [] => true
  | x :: r => inRL R x && inRLL R r
theorem inRL_append {R : List Nat} : ∀ {xs ys : List AV}, inRL R (xs ++ ys) = (inRL R xs && inRL R ys)
  | [], _ => rfl
  | x :: xs, ys => by simp only [List.cons_append, inRL, inRL_append (xs := xs), Bool.and_assoc]
theorem inRLL_flatten {R : List Nat} : ∀ {xs : List (List AV)}, inRLL R xs = true → inRL R xs.flatten = true
  | [], _ => rfl
  | x :: xs, h => by
    simp only [inRLL, Bool.and_eq_true] at h
    simp only [List.flatten_cons, inRL_append, h.1, inRLL_flatten h.2, Bool.and_self]
mutual
theorem AV.inR_closed (R : List Nat) : ∀ x : AV, x.lim 0 = true → x.inR R = true
  | .ptr id _, h => by simp [AV.lim] at h
  | .own id, h => by simp [AV.lim] at h
  | .eptr id _ _, h => by simp [AV.lim] at h
  | .via id _, h => by simp [AV.lim] at h
  | .iface _ x, h => by simp only [AV.lim] at h; simp only [AV.inR, AV.inR_closed R x h]
  | .fn _ cs, h => by simp only [AV.lim] at h; simp only [AV.inR, inRL_closed R cs h]
  | .bfn _ cs, h => by simp only [AV.lim] at h; simp only [AV.inR, inRL_closed R cs h]
  | .agg cs, h => by simp only [AV.lim] at h; simp only [AV.inR, inRL_closed R cs h]
  | .tup cs, h => by simp only [AV.lim] at h; simp only [AV.inR, inRL_closed R cs h]
  | .any, _ => rfl
  | .bool _, _ => rfl
  | .int _ _, _ => rfl
  | .str _, _ => rfl
  | .nilp, _ => rfl
  | .nilS, _ => rfl
  | .nilM, _ => rfl
  | .rd _, _ => rfl
  | .sl _, _ => rfl
  | .nilI, _ => rfl
  | .err _ _, _ => rfl
  | .nilF, _ => rfl
  | .raw _, _ => rfl
theorem inRL_closed (R : List Nat) : ∀ xs : List AV, limL 0 xs = true → inRL R xs = true
  | [], _ => rfl
  | x :: xs, h => by
    simp only [limL, Bool.and_eq_true] at h
    simp only [inRL, AV.inR_closed R x h.1, inRL_closed R xs h.2, Bool.and_self]
end
theorem inRLL_closed (R : List Nat) : ∀ xs : List (List AV), limLL 0 xs = true → inRLL R xs = true
  | [], _ => rfl
  | x :: xs, h => by
    simp only [limLL, Bool.and_eq_true] at h
    simp only [inRLL, inRL_closed R x h.1, inRLL_closed R xs h.2, Bool.and_self]

def KIn (R : List Nat) : Kind → Prop
  | .row _ _ => True
  | .wr _ xs => inRLL R xs = true
  | .map ks vs => inRL R ks = true ∧ inRL R vs = true
  | .sem _ => True
def HIn (R : List Nat) : List (Nat × Nat × AV) → Prop
  | [] => True
  | e :: r => e.2.2.inR R = true ∧ HIn R r
def OIn (R : List Nat) : List (Nat × Kind) → Prop
  | [] => True
  | e :: r => KIn R e.2 ∧ OIn R r
def SIn (R : List Nat) : List (Nat × AV) → Prop
  | [] => True
  | e :: r => e.2.inR R = true ∧ SIn R r

theorem HIn.lk {R : List Nat} {i o : Nat} {x : AV} : ∀ {H : List (Nat × Nat × AV)}, HIn R H → lkH H i o = some x → x.inR R = true
  | [], _, h => by simp [lkH] at h
  | (j, p, v) :: r, hh, h => by
    simp only [lkH] at h
    split at h
    · obtain rfl := Option.some.inj h; exact hh.1
    · exact HIn.lk hh.2 h
theorem OIn.lk {R : List Nat} {i : Nat} {x : Kind} : ∀ {O : List (Nat × Kind)}, OIn R O → lkO O i = some x → KIn R x
  | [], _, h => by simp [lkO] at h
  | (j, v) :: r, hh, h => by
    simp only [lkO] at h
    split at h
    · obtain rfl := Option.some.inj h; exact hh.1
    · exact OIn.lk hh.2 h
theorem SIn.lk {R : List Nat} {t : Nat} : ∀ {σ : List (Nat × AV)}, SIn R σ → (Go.Pv.lk σ t).inR R = true
  | [], _ => rfl
  | (j, v) :: r, hh => by
    simp only [Go.Pv.lk]
    split
    · exact hh.1
    · exact SIn.lk hh.2

theorem Kind.only {id : Nat} {w : World} {g : G} {R : List Nat} {K : Kind} (h : K.holds id w g) (hl : KIn R K) (hi : (idx R id).isSome = true) : K.holds id w (only g R) := by
  have ho : ∀ b, g.owner b = some id → (Go.Pv.only g R).owner b = some id := fun b hb => by simp [Go.Pv.only, hb, hi]
  have hO : ∀ ad m, Ours id w g ad m → Ours id w (Go.Pv.only g R) ad m := fun ad m ⟨h1, h2, h3⟩ => ⟨h1, ho _ h2, h3⟩
  cases K with
  | row z xs =>
    obtain ⟨h1, h0, a, cap, h2, h3, h4, h5⟩ := h
    exact ⟨h1, by simpa [Go.Pv.only, hi] using h0, a, cap, by simp [Go.Pv.only, hi, h2], h3, h4, fun ad e => ⟨(h5 ad e).1, (h5 ad e).2.1, (h5 ad e).2.2.imp _root_.id fun ⟨o, t⟩ => ⟨hO _ _ o, t⟩⟩⟩
  | wr z xs =>
    obtain ⟨h1, h0, a, cap, h2, h3, h4, h5⟩ := h
    refine ⟨h1, by simpa [Go.Pv.only, hi] using h0, a, cap, by simp [Go.Pv.only, hi, h2], h3, h4, fun ad e => ?_⟩
    obtain ⟨o, t, vs, r, c⟩ := h5 ad e
    exact ⟨hO _ _ o, t, vs, RepL.only R _ _ (inRLL_flatten hl) r, c⟩
  | map ks vs =>
    obtain ⟨b, es, clock, h1, h2, h3, h4, h5, h6⟩ := h
    exact ⟨b, es, clock, by simp [Go.Pv.only, hi, h1], ho _ h2, h3, h4, RepL.only R _ _ hl.1 h5, RepL.only R _ _ hl.2 h6⟩
  | sem s =>
    obtain ⟨v, h1, h2⟩ := h
    have : (fun b => (Go.Pv.only g R).owner b = some id) = fun b => g.owner b = some id := by
      funext b
      refine propext ⟨fun hb => ?_, ho b⟩
      simp only [Go.Pv.only] at hb
      split at hb
      · split at hb
        · rename_i h1 _; rw [h1]; exact hb
        · cases hb
      · cases hb
    exact ⟨v, by simp [Go.Pv.only, hi, h1], by rw [this]; exact h2⟩

section
variable {P : Program} {N n0 : Nat} {w0 : World} {g0 : G} {s : St} {a : Act} {w : World} {g : G} {R : List Nat} {n n1 nF : Nat} {w' : World} {gc : G}

theorem only_wf (h : WF g w nF) (hR : ∀ i, (idx R i).isSome = true → i < n) : WF (only g R) w n where
  topNew := h.topNew
  ownNew b hb := by simp [only, h.ownNew b hb]
  blkOwner j b hb := by
    simp only [only] at hb ⊢
    split at hb
    · rename_i hi
      obtain ⟨k1, k2, k3, k4⟩ := h.blkOwner j b hb
      exact ⟨by simp [k1, hi], k2, k3, hR j hi⟩
    · cases hb
  ownLt j v hv := by
    simp only [only] at hv
    split at hv
    · exact hR j (by assumption)
    · cases hv
  ownSl j v hv := by
    simp only [only] at hv
    split at hv
    · exact h.ownSl j v hv
    · cases hv
  sep j b hb := by
    simp only [only] at hb ⊢
    split at hb
    · rw [if_pos (by assumption)]; exact h.sep j b hb
    · cases hb
  idLt b i hb := by
    simp only [only] at hb
    cases ho : g.owner b with
    | none => simp [ho] at hb
    | some j =>
      simp only [ho] at hb
      split at hb
      · obtain rfl := Option.some.inj hb; exact hR _ (by assumption)
      · cases hb

/-- Numbers that nothing has yet. -/
def Free (g : G) (k : Nat) : Prop := g.blk k = none ∧ g.own k = none ∧ ∀ b, g.owner b ≠ some k

variable (hw : WF g w nF) (hR : ∀ i, (idx R i).isSome = true → i < n) (hfree : ∀ k, n ≤ k → k < n1 → Free g k) (hwc : WF gc w' n1) (hn : n ≤ n1) (hnF : n1 ≤ nF) (hf : Frame w (only g R) n w' gc)
include hw hR hfree hwc hn hnF hf

theorem mrg_none {b i : Nat} (h : g.owner b = some i) (hi : (idx R i).isSome = false) : gc.owner b = none ∧ gc.top b = g.top b ∧ w'.heap[b]? = w.heap[b]? ∧ (mrg g gc R n n1).owner b = some i := by
  have hb := hw.ownerLt h
  have h0 : (only g R).owner b = none := by simp [only, h, hi]
  obtain ⟨k1, k2⟩ := hf.foreign b hb h0
  exact ⟨k1, k2, hf.block b hb h0, by simp [mrg, k1, h, hi]⟩

theorem mrg_wf : WF (mrg g gc R n n1) w' nF where
  topNew := hwc.topNew
  ownNew b hb := by
    have h1 := hwc.ownNew b hb
    have h2 := hw.ownNew b (Nat.le_trans hf.size hb)
    simp [mrg, h1, h2]
  blkOwner id b hb := by
    simp only [mrg] at hb
    split at hb
    · rename_i hc
      obtain ⟨q1, q2, q3, q4⟩ := hwc.blkOwner id b hb
      exact ⟨by simp only [mrg, q1]; rw [if_pos hc], q2, q3, by omega⟩
    · rename_i hc
      simp only [Bool.or_eq_true, not_or] at hc
      obtain ⟨k1, k2, k3, k4⟩ := hw.blkOwner id b hb
      obtain ⟨q1, q2, q3, q4⟩ := mrg_none hw hR hfree hwc hn hnF hf k1 (by simpa using hc.1)
      exact ⟨q4, Nat.lt_of_lt_of_le k2 hf.size, by show gc.top b = 0; rw [q2]; exact k3, k4⟩
  ownLt id v hv := by
    simp only [mrg] at hv
    split at hv
    · have := hwc.ownLt id v hv; omega
    · exact hw.ownLt id v hv
  ownSl id v hv := by
    simp only [mrg] at hv
    split at hv
    · exact hwc.ownSl id v hv
    · exact hw.ownSl id v hv
  sep id b hb := by
    simp only [mrg] at hb ⊢
    split at hb
    · rw [if_pos (by assumption)]; exact hwc.sep id b hb
    · rw [if_neg (by assumption)]; exact hw.sep id b hb
  idLt b i hb := by
    simp only [mrg] at hb
    cases hc : gc.owner b with
    | some j =>
      simp only [hc] at hb
      split at hb
      · obtain rfl := Option.some.inj hb
        have := hwc.idLt b _ hc; omega
      · cases hb
    | none =>
      simp only [hc] at hb
      cases ho : g.owner b with
      | none => simp [ho] at hb
      | some j =>
        simp only [ho] at hb
        split at hb
        · cases hb
        · obtain rfl := Option.some.inj hb
          exact hw.idLt b _ ho

theorem mrg_blk {id : Nat} (h : id < n ∨ g.blk id ≠ none) : (mrg g gc R n n1).blk id = g.blk id := by
  simp only [mrg]
  split
  · rename_i hc
    simp only [Bool.or_eq_true, Bool.and_eq_true, Nat.ble_eq, Nat.blt_eq] at hc
    rcases hc with hc | hc
    · rw [hf.blk id (hR id hc)]; simp [only, hc]
    · rcases h with h | h
      · omega
      · exact absurd (hfree id hc.1 hc.2).1 h
  · rfl
theorem mrg_own {id : Nat} (h : id < n ∨ g.own id ≠ none) : (mrg g gc R n n1).own id = g.own id ∧ (mrg g gc R n n1).wd id = g.wd id := by
  simp only [mrg]
  split
  · rename_i hc
    simp only [Bool.or_eq_true, Bool.and_eq_true, Nat.ble_eq, Nat.blt_eq] at hc
    rcases hc with hc | hc
    · rw [hf.own id (hR id hc), hf.wd id (hR id hc)]; simp [only, hc]
    · rcases h with h | h
      · omega
      · exact absurd (hfree id hc.1 hc.2).2.1 h
  · exact ⟨rfl, rfl⟩

theorem mrg_mono : Mono w g w' (mrg g gc R n n1) where
  t := ⟨hf.top, hf.stable⟩
  blk id b hb := by rw [mrg_blk hw hR hfree hwc hn hnF hf (.inr (by simp [hb]))]; exact hb
  own id v hv := by rw [(mrg_own hw hR hfree hwc hn hnF hf (.inr (by simp [hv]))).1]; exact hv
  wd id v hv := (mrg_own hw hR hfree hwc hn hnF hf (.inr (by simp [hv]))).2

theorem mrg_frame (h : Frame w0 g0 n0 w g) (hn0 : n0 ≤ n) : Frame w0 g0 n0 w' (mrg g gc R n n1) where
  os := hf.os.trans h.os
  tape := hf.tape.trans h.tape
  output := hf.output.trans h.output
  size := Nat.le_trans h.size hf.size
  block b hb ho := by
    obtain ⟨k1, k2⟩ := h.foreign b hb ho
    exact (hf.block b (Nat.lt_of_lt_of_le hb h.size) (by simp [only, k1])).trans (h.block b hb ho)
  foreign b hb ho := by
    obtain ⟨k1, k2⟩ := h.foreign b hb ho
    obtain ⟨q1, q2⟩ := hf.foreign b (Nat.lt_of_lt_of_le hb h.size) (by simp [only, k1])
    exact ⟨by simp [mrg, q1, k1], by show gc.top b = _; rw [q2]; exact k2⟩
  top b := Nat.le_trans (h.top b) (hf.top b)
  stable b o ho := (hf.stable b o (Nat.lt_of_lt_of_le ho (h.top b))).trans (h.stable b o ho)
  blk id hi := by rw [mrg_blk hw hR hfree hwc hn hnF hf (.inl (by omega))]; exact h.blk id hi
  own id hi := by rw [(mrg_own hw hR hfree hwc hn hnF hf (.inl (by omega))).1]; exact h.own id hi
  wd id hi := by rw [(mrg_own hw hR hfree hwc hn hnF hf (.inl (by omega))).2]; exact h.wd id hi

/-- What the part's ghosts tell is told by the whole's. -/
theorem mrg_up : Mono w' gc w' (mrg g gc R n n1) where
  t := ⟨fun _ => Nat.le_refl _, fun _ _ _ => rfl⟩
  blk id b hb := by
    have hlt := (hwc.blkOwner id b hb).2.2.2
    simp only [mrg]
    split
    · exact hb
    · rename_i hc
      exfalso
      simp only [Bool.or_eq_true, Bool.and_eq_true, Nat.ble_eq, Nat.blt_eq, not_or, not_and] at hc
      have hlt2 : id < n := by
        refine Classical.byContradiction fun h => ?_
        exact hc.2 (by omega) hlt
      have := hf.blk id hlt2
      rw [hb] at this
      simp [only, hc.1] at this
  own id v hv := by
    have hlt := hwc.ownLt id v hv
    simp only [mrg]
    split
    · exact hv
    · rename_i hc
      exfalso
      simp only [Bool.or_eq_true, Bool.and_eq_true, Nat.ble_eq, Nat.blt_eq, not_or, not_and] at hc
      have hlt2 : id < n := by
        refine Classical.byContradiction fun h => ?_
        exact hc.2 (by omega) hlt
      have := hf.own id hlt2
      rw [hv] at this
      simp [only, hc.1] at this
  wd id v hv := by
    have hlt := hwc.ownLt id v hv
    simp only [mrg]
    split
    · rfl
    · rename_i hc
      exfalso
      simp only [Bool.or_eq_true, Bool.and_eq_true, Nat.ble_eq, Nat.blt_eq, not_or, not_and] at hc
      have hlt2 : id < n := by
        refine Classical.byContradiction fun h => ?_
        exact hc.2 (by omega) hlt
      have := hf.own id hlt2
      rw [hv] at this
      simp [only, hc.1] at this

theorem mrg_free {k : Nat} (hk : Free g k) (h : ¬ (n ≤ k ∧ k < n1)) (hkR : (idx R k).isSome = false) : Free (mrg g gc R n n1) k := by
  have h0 : (only g R).blk k = none ∧ (only g R).own k = none := by
    constructor
    · simp only [only]; split
      · exact hk.1
      · rfl
    · simp only [only]; split
      · exact hk.2.1
      · rfl
  have hgc : gc.blk k = none ∧ gc.own k = none := by
    by_cases hlt : k < n
    · exact ⟨(hf.blk k hlt).trans h0.1, (hf.own k hlt).trans h0.2⟩
    · constructor
      · cases hb : gc.blk k with
        | none => rfl
        | some b => have := (hwc.blkOwner k b hb).2.2.2; omega
      · cases hb : gc.own k with
        | none => rfl
        | some b => have := hwc.ownLt k b hb; omega
  refine ⟨?_, ?_, fun b hb => ?_⟩
  · simp only [mrg]; split
    · exact hgc.1
    · exact hk.1
  · simp only [mrg]; split
    · exact hgc.2
    · exact hk.2.1
  · simp only [mrg] at hb
    cases hc : gc.owner b with
    | some j =>
      simp only [hc] at hb
      split at hb
      · rename_i hh
        obtain rfl := Option.some.inj hb
        simp only [hkR, Bool.false_or, Bool.and_eq_true, Nat.ble_eq, Nat.blt_eq] at hh
        exact h hh
      · cases hb
    | none =>
      simp only [hc] at hb
      cases ho : g.owner b with
      | none => simp [ho] at hb
      | some j =>
        simp only [ho] at hb
        split at hb
        · cases hb
        · obtain rfl := Option.some.inj hb
          exact hk.2.2 b ho

/-- A thing that the part tells of is told by the whole. -/
theorem mrg_kind {id : Nat} {K : Kind} (h : K.holds id w' gc) : K.holds id w' (mrg g gc R n n1) := by
  have hup := mrg_up hw hR hfree hwc hn hnF hf
  obtain ⟨v, hv⟩ := Kind.own_some h
  have hlt := hwc.ownLt id v hv
  have hin : ((idx R id).isSome || (Nat.ble n id && Nat.blt id n1)) = true := by
    cases hi : (idx R id).isSome with
    | true => rfl
    | false =>
      by_cases h2 : id < n
      · have := hf.own id h2
        rw [hv] at this
        simp [only, hi] at this
      · simp; omega
  refine Kind.keep h ⟨hup, fun b hb => ⟨rfl, ?_, rfl⟩, fun b hb => ?_⟩
  · simp only [mrg, hb]; rw [if_pos hin]
  · simp only [mrg] at hb
    cases hc : gc.owner b with
    | some j =>
      simp only [hc] at hb
      split at hb
      · exact hb
      · cases hb
    | none =>
      exfalso
      simp only [hc] at hb
      cases ho : g.owner b with
      | none => simp [ho] at hb
      | some j =>
        simp only [ho] at hb
        split at hb
        · cases hb
        · rename_i hj
          obtain rfl := Option.some.inj hb
          simp only [Bool.or_eq_true, Bool.and_eq_true, Nat.ble_eq, Nat.blt_eq] at hin
          rcases hin with hin | hin
          · exact hj hin
          · exact (hfree _ hin.1 hin.2).2.2 b ho
/-- What the part doesn't hold stays. -/
theorem mrg_keep {id : Nat} {K : Kind} (h : K.holds id w g) (hi : (idx R id).isSome = false) : K.holds id w' (mrg g gc R n n1) := by
  have hm := mrg_mono hw hR hfree hwc hn hnF hf
  obtain ⟨v, hv⟩ := Kind.own_some h
  refine Kind.keep h ⟨hm, fun b hb => ?_, fun b hb => ?_⟩
  · obtain ⟨q1, q2, q3, q4⟩ := mrg_none hw hR hfree hwc hn hnF hf hb hi
    exact ⟨q3, q4, q2⟩
  · simp only [mrg] at hb
    cases hc : gc.owner b with
    | some j =>
      simp only [hc] at hb
      split at hb
      · rename_i hh
        exfalso
        obtain rfl := Option.some.inj hb
        simp only [hi, Bool.false_or, Bool.and_eq_true, Nat.ble_eq, Nat.blt_eq] at hh
        have := (hfree _ hh.1 hh.2).2.1
        rw [hv] at this; cases this
      · cases hb
    | none =>
      simp only [hc] at hb
      cases ho : g.owner b with
      | none => simp [ho] at hb
      | some j =>
        simp only [ho] at hb
        split at hb
        · cases hb
        · exact hb
end

theorem wp_put {P : Program} {o : Oper} {a : Act} {w : World} {K : Act → World → Prop} {Q Q2 : Exit → Act → World → Prop} (hp : ∀ c a w, ¬ Q (.panic c) a w) (hl : ¬ LetsOut Q) (h : o.wp P a w K Q) :
    o.wp P a w (fun a' w' => K a' w' ∧ ∃ u, a'.tmps = (a.put o.dst u).tmps) Q2 := by
  unfold Oper.wp at *
  generalize (execOp a.eval o).run P w = r at *
  cases r with
  | ok n w' =>
    cases n <;> simp only [Oper.upon] at h ⊢
    case value v => exact ⟨h, v, rfl⟩
    case skip => exact ⟨h, undef, rfl⟩
    case defer d => exact ⟨h, undef, by cases hd : o.dst <;> simp [Act.put]⟩
    case enter f args =>
      refine Calls.mono h fun e w'' he => ?_
      cases e with
      | returned v => exact ⟨he, v, rfl⟩
      | panicked c => exact (hp _ _ _ he).elim
      | outgrown => exact (hl he).elim
    case row r args => exact Rows.mono h fun v w'' he => ⟨he, v, rfl⟩
  | halt x w' =>
    cases x <;> simp only [Oper.upon] at h ⊢
    case panic v => exact (hp _ _ _ h).elim
end Go.Pv

/- Regions that draw their order and change things: the walk, and that it serves for all orders. -/
namespace Go.Pv
open Go.RowKit (Below)
set_option linter.unusedSimpArgs false
set_option linter.unusedSectionVars false
set_option linter.unusedVariables false

def memI (l : List Nat) (i : Nat) : Bool := (idx l i).isSome
theorem memI_app {i : Nat} : ∀ {A B : List Nat}, memI (A ++ B) i = (memI A i || memI B i)
  | [], _ => rfl
  | x :: A, B => by
    have ih := memI_app (i := i) (A := A) (B := B)
    simp only [memI, List.cons_append, idx] at ih ⊢
    by_cases h : Nat.beq x i = true
    · simp [h]
    · simp only [h, Bool.false_eq_true, if_false]
      cases h1 : idx (A ++ B) i <;> cases h2 : idx A i <;> cases h3 : idx B i <;> simp_all
theorem memI_range {i : Nat} : ∀ (k n : Nat), memI (List.range' n k) i = (Nat.ble n i && Nat.blt i (n + k))
  | 0, n => by
    simp only [List.range'_zero, memI, idx]
    cases h : (Nat.ble n i && Nat.blt i (n + 0)) with
    | false => rfl
    | true => simp only [Bool.and_eq_true, Nat.ble_eq, Nat.blt_eq] at h; omega
  | k + 1, n => by
    have ih := memI_range k (n + 1) (i := i)
    simp only [memI, List.range'_succ, idx] at ih ⊢
    by_cases h : Nat.beq n i = true
    · have : n = i := by simpa using h
      subst this
      simp
    · simp only [h, Bool.false_eq_true, if_false]
      have e : (match idx (List.range' (n + 1) k) i with | some j => some (j + 1) | none => none).isSome = (idx (List.range' (n + 1) k) i).isSome := by cases idx (List.range' (n + 1) k) i <;> rfl
      refine e.trans ?_
      rw [ih]
      have hne : n ≠ i := by simpa using h
      rw [Bool.eq_iff_iff]; simp only [Bool.and_eq_true, Nat.ble_eq, Nat.blt_eq]; omega

structure XI where
  R : List Nat
  W : List Nat
  H : List (Nat × Nat × AV)
  O : List (Nat × Kind)
  n : Nat

def updS (d : Option Tmp) (v : AV) (σ : List (Nat × AV)) : List (Nat × AV) :=
  match d with
  | some d => (d, v) :: σ
  | none => σ

def keysH (W : List Nat) : List (Nat × Nat × AV) → Bool
  | [] => true
  | e :: r => memI W e.1 && keysH W r
def keysO (W : List Nat) : List (Nat × Kind) → Bool
  | [] => true
  | e :: r => memI W e.1 && keysO W r
theorem keysH_lk {W : List Nat} {i o : Nat} : ∀ {H : List (Nat × Nat × AV)}, keysH W H = true → memI W i = false → lkH H i o = none
  | [], _, _ => rfl
  | (j, p, v) :: r, h, hi => by
    simp only [keysH, Bool.and_eq_true] at h
    simp only [lkH]
    rw [if_neg]
    · exact keysH_lk h.2 hi
    · simp only [Bool.and_eq_true, Nat.beq_eq]
      rintro ⟨rfl, _⟩; rw [hi] at h; cases h.1
theorem keysO_lk {W : List Nat} {i : Nat} : ∀ {O : List (Nat × Kind)}, keysO W O = true → memI W i = false → lkO O i = none
  | [], _, _ => rfl
  | (j, v) :: r, h, hi => by
    simp only [keysO, Bool.and_eq_true] at h
    simp only [lkO]
    rw [if_neg]
    · exact keysO_lk h.2 hi
    · simp only [Nat.beq_eq]
      rintro rfl; rw [hi] at h; cases h.1
theorem dropH_none {L : List Nat} {i o : Nat} (h : memI L i = true) : ∀ H : List (Nat × Nat × AV), lkH (dropH L H) i o = none := fun H => by
  cases hx : lkH (dropH L H) i o with
  | none => rfl
  | some y => have := (lkH_dropH hx).2; unfold memI at h; rw [this] at h; cases h
theorem dropO_none {L : List Nat} {i : Nat} (h : memI L i = true) : ∀ O : List (Nat × Kind), lkO (dropO L O) i = none := fun O => by
  cases hx : lkO (dropO L O) i with
  | none => rfl
  | some y => have := (lkO_dropO hx).2; unfold memI at h; rw [this] at h; cases h
theorem memI_none {L : List Nat} {i : Nat} (h : memI L i = false) : idx L i = none := by
  unfold memI at h; cases hx : idx L i with
  | none => rfl
  | some _ => rw [hx] at h; cases h

/-- H and O behind an operation that changes what is in W. -/
def newH (W : List Nat) (H1 H : List (Nat × Nat × AV)) := H1 ++ dropH W H
def newO (W : List Nat) (O1 O : List (Nat × Kind)) := O1 ++ dropO W O
theorem newH_in {W : List Nat} {H1 H : List (Nat × Nat × AV)} {i o : Nat} (h : memI W i = true) : lkH (newH W H1 H) i o = lkH H1 i o := by
  rw [newH, lkH_app, dropH_none h]; cases lkH H1 i o <;> rfl
theorem newH_out {W : List Nat} {H1 H : List (Nat × Nat × AV)} {i o : Nat} (hk : keysH W H1 = true) (h : memI W i = false) : lkH (newH W H1 H) i o = lkH H i o := by
  rw [newH, lkH_app, keysH_lk hk h, lkH_dropH' (memI_none h)]
theorem newO_in {W : List Nat} {O1 O : List (Nat × Kind)} {i : Nat} (h : memI W i = true) : lkO (newO W O1 O) i = lkO O1 i := by
  rw [newO, lkO_app, dropO_none h]; cases lkO O1 i <;> rfl
theorem newO_out {W : List Nat} {O1 O : List (Nat × Kind)} {i : Nat} (hk : keysO W O1 = true) (h : memI W i = false) : lkO (newO W O1 O) i = lkO O i := by
  rw [newO, lkO_app, keysO_lk hk h, lkO_dropO' (memI_none h)]

def lessAll (n : Nat) : List Nat → Bool
  | [] => true
  | i :: r => Nat.blt i n && lessAll n r
theorem lessAll_mem {n i : Nat} : ∀ {R : List Nat}, lessAll n R = true → memI R i = true → i < n
  | [], _, h => by simp [memI, idx] at h
  | x :: R, h, hm => by
    simp only [lessAll, Bool.and_eq_true, Nat.blt_eq] at h
    simp only [memI, idx] at hm
    by_cases hx : Nat.beq x i = true
    · have : x = i := by simpa using hx
      omega
    · simp only [hx, Bool.false_eq_true, if_false] at hm
      refine lessAll_mem h.2 ?_
      unfold memI; cases h2 : idx R i with
      | none => simp [h2] at hm
      | some _ => rfl

inductive One (P : Program) [Tab P] (N n0 : Nat) (ops : Array Oper) (σ : List (Nat × AV)) (H : List (Nat × Nat × AV)) (O : List (Nat × Kind)) (n : Nat) (o : Oper) : XI → List (Nat × AV) → List (Nat × Nat × AV) → List (Nat × Kind) → Nat → Prop
  | val {d : Nat} {v : AV} (R : List Nat) (hd : o.dst = some d) (hN : Nat.blt d N = true) (hg : wantedS ops σ o.guard = some true) (hs : ∀ m, Step P N n0 ⟨restr o σ, rH R H, rO R O, m⟩ { o with guard := none } v) :
      One P N n0 ops σ H O n o ⟨R, [], H, O, n⟩ ((d, v) :: σ) H O n
  | no {d : Nat} (hd : o.dst = some d) (hN : Nat.blt d N = true) (hg : wantedS ops σ o.guard = some false) : One P N n0 ops σ H O n o ⟨[], [], H, O, n⟩ ((d, .tup []) :: σ) H O n
  | eff {v : AV} {n1 : Nat} {H1 : List (Nat × Nat × AV)} {O1 : List (Nat × Kind)} (R : List Nat) (hd : dOk N o.dst = true) (hg : wantedS ops σ o.guard = some true)
      (hs : aops P N n ops [{ o with guard := none }] (fun e s' => e = .normal ∧ s' = ⟨updS o.dst v (restr o σ), H1, O1, n1⟩) ⟨restr o σ, rH R H, rO R O, n⟩)
      (hRn : lessAll n R = true) (hn : n ≤ n1) (h1 : keysH (R ++ List.range' n (n1 - n)) H1 = true) (h2 : keysO (R ++ List.range' n (n1 - n)) O1 = true)
      (hS : SIn R (restr o σ)) (hH : HIn R (rH R H)) (hO : OIn R (rO R O)) :
      One P N n0 ops σ H O n o ⟨R, R ++ List.range' n (n1 - n), H, O, n⟩ (updS o.dst v σ) (newH (R ++ List.range' n (n1 - n)) H1 H) (newO (R ++ List.range' n (n1 - n)) O1 O) n1

inductive PX (P : Program) [Tab P] (N n0 : Nat) (ops : Array Oper) : List Oper → List (Nat × AV) → List (Nat × Nat × AV) → List (Nat × Kind) → Nat → List XI → List (Nat × AV) → List (Nat × Nat × AV) → List (Nat × Kind) → Nat → Prop
  | nil {σ H O n} : PX P N n0 ops [] σ H O n [] σ H O n
  | cons {o rest σ H O n x σ1 H1 O1 n1 xs σ' H' O' n'} (one : One P N n0 ops σ H O n o x σ1 H1 O1 n1) (k : PX P N n0 ops rest σ1 H1 O1 n1 xs σ' H' O' n') : PX P N n0 ops (o :: rest) σ H O n (x :: xs) σ' H' O' n'
  | eqv {l σ H O n xs σ' H' O' n' σ₁} (h : ∀ t, lk σ₁ t = lk σ t) (k : PX P N n0 ops l σ₁ H O n xs σ' H' O' n') : PX P N n0 ops l σ H O n xs σ' H' O' n'

section
variable {P : Program} [Tab P] {N n0 : Nat} {ops : Array Oper} {σ σ1 σ' : List (Nat × AV)} {H H1 H' : List (Nat × Nat × AV)} {O O1 O' : List (Nat × Kind)} {n n1 n' : Nat} {o : Oper} {x : XI} {xs : List XI} {l : List Oper}

theorem One.facts (h : One P N n0 ops σ H O n o x σ1 H1 O1 n1) : x.H = H ∧ x.O = O ∧ x.n = n ∧ n ≤ n1 ∧ (∀ t, o.dst ≠ some t → lk σ1 t = lk σ t) ∧
    (∀ i, memI x.W i = false → (∀ off, lkH H1 i off = lkH H i off) ∧ lkO O1 i = lkO O i) ∧ (∀ k, n ≤ k → k < n1 → memI x.W k = true) ∧ (∀ i, memI x.R i = true → x.W ≠ [] → i < n) := by
  cases h with
  | val R hd hN hg hs =>
    refine ⟨rfl, rfl, rfl, Nat.le_refl _, fun t ht => ?_, fun i _ => ⟨fun _ => rfl, rfl⟩, fun k h1 h2 => absurd h1 (by omega), fun i _ h => absurd rfl h⟩
    simp only [lk]; rw [if_neg]; rw [hd] at ht; simp only [Nat.beq_eq]; exact fun e => ht (by rw [e])
  | no hd hN hg =>
    refine ⟨rfl, rfl, rfl, Nat.le_refl _, fun t ht => ?_, fun i _ => ⟨fun _ => rfl, rfl⟩, fun k h1 h2 => absurd h1 (by omega), fun i _ h => absurd rfl h⟩
    simp only [lk]; rw [if_neg]; rw [hd] at ht; simp only [Nat.beq_eq]; exact fun e => ht (by rw [e])
  | @eff v n1' H1' O1' R hd hg hs hRn hn h1 h2 hS hH hO =>
    refine ⟨rfl, rfl, rfl, hn, fun t ht => ?_, fun i hi => ⟨fun off => newH_out h1 hi, newO_out h2 hi⟩, fun k hk1 hk2 => ?_, fun i hi _ => lessAll_mem hRn hi⟩
    · cases hd' : o.dst with
      | none => rfl
      | some d =>
        simp only [updS, lk]; rw [if_neg]; rw [hd'] at ht; simp only [Nat.beq_eq]; exact fun e => ht (by rw [e])
    · simp only [memI_app, memI_range]
      have : (Nat.ble n k && Nat.blt k (n + (n1 - n))) = true := by simp; omega
      rw [this]; simp

/-- No later operation writes a slot that one writes or looks at. -/
def okX (ops : Array Oper) : List Oper → Bool
  | [] => true
  | o :: rest => (match o.dst with | some d => !(usesOf ops o).contains d | none => true) &&
      rest.all (fun r => match r.dst with | some d => o.dst != some d && !(usesOf ops o).contains d | none => true) && okX ops rest

theorem okX_cons {o : Oper} {rest : List Oper} (h : okX ops (o :: rest) = true) : okX ops rest = true ∧ (∀ d, o.dst = some d → d ∉ usesOf ops o) ∧ (∀ t, (o.dst = some t ∨ t ∈ usesOf ops o) → ∀ r ∈ rest, r.dst ≠ some t) := by
  simp only [okX, Bool.and_eq_true, List.all_eq_true] at h
  refine ⟨h.2, fun d hd => ?_, fun t ht r hr e => ?_⟩
  · have := h.1.1; rw [hd] at this; simp only [List.contains_eq_mem] at this; simpa using this
  · have := h.1.2 r hr
    rw [e] at this
    simp only [Bool.and_eq_true, bne_iff_ne, ne_eq, Bool.not_eq_true'] at this
    rcases ht with ht | ht
    · exact this.1 ht
    · have h2 := this.2; rw [List.contains_eq_mem] at h2; simp at h2; exact h2 ht

theorem PX.lk_same (h : PX P N n0 ops l σ H O n xs σ' H' O' n') : ∀ t, (∀ o ∈ l, o.dst ≠ some t) → lk σ' t = lk σ t := by
  induction h with
  | nil => intro t _; rfl
  | cons one k ih =>
    intro t ht
    rw [ih t (fun o ho => ht o (by simp [ho]))]
    exact one.facts.2.2.2.2.1 t (ht _ (List.mem_cons_self ..))
  | eqv h k ih => intro t ht; rw [ih t ht, h t]

def hsA (xs : List XI) (H' : List (Nat × Nat × AV)) (t : Nat) : List (Nat × Nat × AV) := match xs[t]? with | some x => x.H | none => H'
def osA (xs : List XI) (O' : List (Nat × Kind)) (t : Nat) : List (Nat × Kind) := match xs[t]? with | some x => x.O | none => O'
def nsA (xs : List XI) (n' : Nat) (t : Nat) : Nat := match xs[t]? with | some x => x.n | none => n'

theorem PX.len (h : PX P N n0 ops l σ H O n xs σ' H' O' n') : xs.length = l.length := by
  induction h with
  | nil => rfl
  | cons one k ih => simp [ih]
  | eqv h k ih => exact ih

theorem PX.zero (h : PX P N n0 ops l σ H O n xs σ' H' O' n') : hsA xs H' 0 = H ∧ osA xs O' 0 = O ∧ nsA xs n' 0 = n := by
  induction h with
  | nil => exact ⟨rfl, rfl, rfl⟩
  | cons one k ih => exact ⟨one.facts.1, one.facts.2.1, one.facts.2.2.1⟩
  | eqv h k ih => exact ih

/-- Each operation of the walk, as it stands at the walk's end. -/
theorem PX.at (h : PX P N n0 ops l σ H O n xs σ' H' O' n') (hok : okX ops l = true) : ∀ k o, l[k]? = some o → ∃ x σk σk1, xs[k]? = some x ∧ One P N n0 ops σk (hsA xs H' k) (osA xs O' k) (nsA xs n' k) o x σk1 (hsA xs H' (k + 1)) (osA xs O' (k + 1)) (nsA xs n' (k + 1)) ∧
    (∀ t ∈ usesOf ops o, lk σ' t = lk σk t) ∧ (∀ d, o.dst = some d → lk σ' d = lk σk1 d) := by
  induction h with
  | nil => intro k o h; simp at h
  | eqv h k ih => exact ih hok
  | @cons o rest σ H O n x σ1 H1 O1 n1 xs σ' H' O' n' one k ih =>
    intro j q hq
    obtain ⟨hok1, hself, hrest⟩ := okX_cons hok
    cases j with
    | zero =>
      simp at hq; subst hq
      obtain ⟨e1, e2, e3⟩ := k.zero
      obtain ⟨f1, f2, f3, _, f5, _⟩ := one.facts
      refine ⟨x, σ, σ1, rfl, ?_, fun t ht => ?_, fun d hd => k.lk_same d (hrest d (.inl hd))⟩
      · have g1 : hsA (x :: xs) H' (0 + 1) = H1 := e1
        have g2 : osA (x :: xs) O' (0 + 1) = O1 := e2
        have g3 : nsA (x :: xs) n' (0 + 1) = n1 := e3
        have g4 : hsA (x :: xs) H' 0 = H := f1
        have g5 : osA (x :: xs) O' 0 = O := f2
        have g6 : nsA (x :: xs) n' 0 = n := f3
        rw [g1, g2, g3, g4, g5, g6]; exact one
      · rw [k.lk_same t (hrest t (.inr ht))]
        exact f5 t fun e => hself t e ht
    | succ j =>
      obtain ⟨y, σk, σk1, h1, h2, h3, h4⟩ := ih hok1 j q (by simpa using hq)
      exact ⟨y, σk, σk1, h1, h2, h3, h4⟩

theorem PX.nmono (h : PX P N n0 ops l σ H O n xs σ' H' O' n') : (∀ t, nsA xs n' t ≤ nsA xs n' (t + 1)) ∧ n ≤ n' := by
  induction h with
  | nil => exact ⟨fun t => Nat.le_refl _, Nat.le_refl _⟩
  | eqv h k ih => exact ih
  | @cons o rest σ H O n x σ1 H1 O1 n1 xs σ' H' O' n' one k ih =>
    obtain ⟨e1, e2, e3⟩ := k.zero
    obtain ⟨_, _, f3, f4, _⟩ := one.facts
    refine ⟨fun t => ?_, by omega⟩
    cases t with
    | zero =>
      have g3 : nsA (x :: xs) n' (0 + 1) = n1 := e3
      have g6 : nsA (x :: xs) n' 0 = n := f3
      rw [g3, g6]; exact f4
    | succ t => exact ih.1 t

/-! ### the orders -/

def edgeTo (ops : Array Oper) (i j : Nat) : Bool := match ops[j]? with
  | some o => hasEdge o i
  | none => false
def pathOk (ops : Array Oper) : List Nat → Bool
  | a :: b :: r => edgeTo ops a b && pathOk ops (b :: r)
  | _ => true
def clash (x y : XI) : Bool := x.W.any (fun i => memI y.R i || memI y.W i) || x.R.any (fun i => memI y.W i)
def pathFor (ops : Array Oper) (ps : List (List Nat)) (i j : Nat) : Bool := edgeTo ops i j || ps.any fun p => p.head? == some i && p.getLast? == some j && Nat.blt 1 p.length && pathOk ops p
def chkX (ops : Array Oper) (xs : List XI) (ps : List (List Nat)) : Bool :=
  (List.range xs.length).all fun j => (List.range j).all fun i => match xs[i]?, xs[j]? with
    | some x, some y => !clash x y || pathFor ops ps i j
    | _, _ => true

def Closed (ops : Array Oper) (L : Array Bool) : Prop := ∀ j o, ops[j]? = some o → L.getD j false = true → ∀ e ∈ o.after.toList, Region.binds .any e = true → L.getD e.on false = true

theorem path_in {L : Array Bool} (hc : Closed ops L) {j : Nat} {q : Oper} (hq : ops[j]? = some q) (hj : ∀ e ∈ q.after.toList, Region.binds .any e = true → L.getD e.on false = true) :
    ∀ p : List Nat, pathOk ops p = true → 1 < p.length → p.getLast? = some j → ∀ i, p.head? = some i → L.getD i false = true
  | [], _, h, _, _, _ => by simp at h
  | [a], _, h, _, _, _ => by simp at h
  | [a, b], hp, _, hl, i, hi => by
    simp at hl hi; subst hl; subst hi
    simp only [pathOk, Bool.and_true, edgeTo, hq] at hp
    exact hasEdge_of hp hj
  | a :: b :: c :: r, hp, _, hl, i, hi => by
    simp at hi; subst hi
    rw [pathOk, Bool.and_eq_true] at hp
    have hb := path_in hc hq hj (b :: c :: r) hp.2 (by simp) (by simpa using hl) b rfl
    have h1 := hp.1
    unfold edgeTo at h1
    cases ho : ops[b]? with
    | none => rw [ho] at h1; cases h1
    | some o => rw [ho] at h1; exact hasEdge_of h1 (hc b o ho hb)

theorem pathFor_in {L : Array Bool} (hc : Closed ops L) {j : Nat} {q : Oper} (hq : ops[j]? = some q) (hj : ∀ e ∈ q.after.toList, Region.binds .any e = true → L.getD e.on false = true) {ps : List (List Nat)} {i : Nat}
    (h : pathFor ops ps i j = true) : L.getD i false = true := by
  simp only [pathFor, Bool.or_eq_true, List.any_eq_true] at h
  rcases h with h | ⟨p, _, h⟩
  · unfold edgeTo at h; rw [hq] at h; exact hasEdge_of h hj
  · simp only [Bool.and_eq_true, beq_iff_eq, Nat.blt_eq] at h
    exact path_in hc hq hj p h.2 h.1.2 h.1.1.2 i h.1.1.1

theorem chkX_get {ps : List (List Nat)} (h : chkX ops xs ps = true) {i j : Nat} {x y : XI} (hx : xs[i]? = some x) (hy : xs[j]? = some y) (hij : i < j) (hc : clash x y = true) : pathFor ops ps i j = true := by
  unfold chkX at h
  rw [List.all_eq_true] at h
  have hj : j < xs.length := (List.getElem?_eq_some_iff.1 hy).1
  have h1 := h j (List.mem_range.2 hj)
  rw [List.all_eq_true] at h1
  have h2 := h1 i (List.mem_range.2 hij)
  rw [hx, hy] at h2
  simpa [hc] using h2

theorem memI_mem {l : List Nat} {i : Nat} (h : memI l i = true) : i ∈ l := by
  unfold memI at h
  cases hx : idx l i with
  | none => rw [hx] at h; cases h
  | some k => exact List.mem_of_getElem? (idx_get hx)
theorem clash_W {x y : XI} {i : Nat} (h : memI x.W i = true) (k : memI y.R i = true ∨ memI y.W i = true) : clash x y = true := by
  simp only [clash, Bool.or_eq_true, List.any_eq_true]
  exact .inl ⟨i, memI_mem h, by rcases k with k | k <;> simp [k]⟩
theorem clash_R {x y : XI} {i : Nat} (h : memI x.R i = true) (k : memI y.W i = true) : clash x y = true := by
  simp only [clash, Bool.or_eq_true, List.any_eq_true]
  exact .inr ⟨i, memI_mem h, k⟩

structure JX (P : Program) [Tab P] (N n0 : Nat) (ops : Array Oper) (m : Nat) (xs : List XI) (σ' : List (Nat × AV)) (H' : List (Nat × Nat × AV)) (O' : List (Nat × Kind)) (n' : Nat) (w0 : World) (g0 : G)
    (L : Array Bool) (a : Act) (w : World) (g : G) (HL : List (Nat × Nat × AV)) (OL : List (Nat × Kind)) (σL : List (Nat × AV)) : Prop where
  inv : Inv N n0 w0 g0 ⟨σL, HL, OL, n'⟩ a w g
  slots : ∀ t, (∀ i o, i < m → ops[i]? = some o → o.dst = some t → L.getD i false = true) → lk σL t = lk σ' t
  mem : ∀ id t, t ≤ m → (∀ i x, xs[i]? = some x → memI x.W id = true → (L.getD i false = true ↔ i < t)) →
    (∀ off y, lkH (hsA xs H' t) id off = some y → lkH HL id off = some y) ∧ (∀ K, lkO (osA xs O' t) id = some K → lkO OL id = some K)
  free : ∀ i, i < m → L.getD i false = false → ∀ k, nsA xs n' i ≤ k → k < nsA xs n' (i + 1) → Free g k
  cl : Closed ops L

variable {w0 : World} {g0 : G} {a : Act} {w : World} {g : G}

theorem getD_eq_of_ne {L : Array Bool} {i j : Nat} (hi : i < L.size) (h : j ≠ i) (d : Bool) : (L.setIfInBounds i true).getD j d = L.getD j d := by
  rw [getD_set hi, if_neg h]

theorem closed_set {L : Array Bool} (hc : Closed ops L) {j : Nat} (hj : j < L.size) {q : Oper} (hq : ops[j]? = some q) (hr : ∀ e ∈ q.after.toList, Region.binds .any e = true → L.getD e.on false = true) : Closed ops (L.setIfInBounds j true) := by
  intro i o ho hi e he hb
  rw [getD_set hj] at hi ⊢
  split
  · rfl
  · split at hi
    · rename_i hij; subst hij
      rw [hq] at ho; obtain rfl := Option.some.inj ho
      exact hr e he hb
    · exact hc i o ho hi e he hb

/-- One of the operations. -/
theorem JX.step {m n n' : Nat} {ps : List (List Nat)} {L : Array Bool} {HL : List (Nat × Nat × AV)} {OL : List (Nat × Kind)} {σL : List (Nat × AV)} (hpx : PX P N n0 ops l σ H O n xs σ' H' O' n') (hl : l = ops.toList.take m) (hok : okX ops l = true) (hx : chkX ops xs ps = true)
    (h : JX P N n0 ops m xs σ' H' O' n' w0 g0 L a w g HL OL σL) (hm : m ≤ ops.size) (hs : L.size = ops.size) (hn0 : n0 ≤ n)
    (hbnd : ∀ i o, i < m → ops[i]? = some o → ∀ t ∈ gslotOf ops o, t < N)
    (hdst : ∀ i o, i < m → ops[i]? = some o → ∀ t, o.dst = some t → ∀ i' o', i' < m → ops[i']? = some o' → o'.dst = some t → i' = i)
    {j : Nat} {o : Oper} (hj : j < m) (ho : ops[j]? = some o) (hjL : L.getD j true = false) (hedge : ∀ e ∈ o.after.toList, Region.binds .any e = true → L.getD e.on false = true)
    (hdep : ∀ t ∈ usesOf ops o, ∀ i o', i < m → ops[i]? = some o' → o'.dst = some t → L.getD i false = true)
    {Q : Exit → Act → World → Prop} {K : Act → World → Prop}
    (hK : ∀ a' w' g' HL' OL' σL', JX P N n0 ops m xs σ' H' O' n' w0 g0 (L.setIfInBounds j true) a' w' g' HL' OL' σL' → K a' w') : wpOp P ops Q j K a w := by
  have hjs : j < L.size := by omega
  have hlj : l[j]? = some o := by rw [hl, List.getElem?_take]; simp [hj]; exact ho
  have hlen : xs.length = m := by rw [hpx.len, hl]; simp; omega
  obtain ⟨x, σk, σk1, hxj, one, huse0, hdst0⟩ := hpx.at hok j o hlj
  have huse : ∀ t ∈ usesOf ops o, lk σL t = lk σk t := fun t ht => by rw [← huse0 t ht]; exact h.slots t (hdep t ht)
  have hjf : L.getD j false = false := by rw [getD_both hjs false true]; exact hjL
  -- what a path brings
  have hbefore : ∀ i y, xs[i]? = some y → i < j → clash y x = true → L.getD i false = true := fun i y hy hij hc =>
    pathFor_in h.cl ho hedge (chkX_get hx hy hxj hij hc)
  have hafter : ∀ i y, xs[i]? = some y → j < i → clash x y = true → L.getD i false = false := fun i y hy hij hc => by
    cases hh : L.getD i false with
    | false => rfl
    | true =>
      exfalso
      have hi : i < ops.size := by have := (List.getElem?_eq_some_iff.1 hy).1; omega
      have := pathFor_in h.cl (Array.getElem?_eq_getElem hi) (h.cl i _ (Array.getElem?_eq_getElem hi) hh) (chkX_get hx hxj hy hij hc)
      rw [hjf] at this; cases this
  have hlook : ∀ id, (memI x.R id = true ∨ memI x.W id = true) → (∀ off y, lkH (hsA xs H' j) id off = some y → lkH HL id off = some y) ∧ (∀ K, lkO (osA xs O' j) id = some K → lkO OL id = some K) := fun id hid =>
    h.mem id j (by omega) fun i y hy hw => by
      constructor
      · intro hL
        rcases Nat.lt_trichotomy i j with h1 | h1 | h1
        · exact h1
        · subst h1; rw [hjf] at hL; cases hL
        · have : L.getD i false = false := hafter i y hy h1 (by
            rcases hid with hid | hid
            · exact clash_R hid hw
            · exact clash_W hid (.inr hw))
          rw [hL] at this; cases this
      · intro h1
        exact hbefore i y hy h1 (clash_W hw hid)
  have hslots' : ∀ v, (∀ d, o.dst = some d → v = lk σ' d) → ∀ t, (∀ i o, i < m → ops[i]? = some o → o.dst = some t → (L.setIfInBounds j true).getD i false = true) → lk (updS o.dst v σL) t = lk σ' t := by
    intro v hv t ht
    have hold : o.dst ≠ some t → lk σL t = lk σ' t := fun hne => h.slots t fun i o' hi ho' hd' => by
      have := ht i o' hi ho' hd'
      rw [getD_set hjs] at this
      split at this
      · rename_i hij; subst hij
        rw [ho] at ho'; obtain rfl := Option.some.inj ho'
        exact absurd hd' hne
      · exact this
    cases hd : o.dst with
    | none => exact hold (by rw [hd]; simp)
    | some d =>
      simp only [updS, lk]
      by_cases hb : Nat.beq d t = true
      · have e : d = t := by simpa using hb
        subst e
        rw [if_pos hb]; exact hv d hd
      · rw [if_neg hb]
        exact hold (by rw [hd]; intro e; exact hb (by simp [Option.some.inj e]))
  -- what is not touched
  have hmemv : memI x.W = (fun _ => false) → ∀ HL' OL', (∀ i off, lkH HL' i off = lkH HL i off) → (∀ i, lkO OL' i = lkO OL i) → ∀ id t, t ≤ m → (∀ i y, xs[i]? = some y → memI y.W id = true → ((L.setIfInBounds j true).getD i false = true ↔ i < t)) →
      (∀ off y, lkH (hsA xs H' t) id off = some y → lkH HL' id off = some y) ∧ (∀ K, lkO (osA xs O' t) id = some K → lkO OL' id = some K) := by
    intro hW HL' OL' e1 e2 id t ht hc
    have := h.mem id t ht fun i y hy hw => by
      have hne : i ≠ j := fun e => by subst e; rw [hxj] at hy; obtain rfl := Option.some.inj hy; rw [hW] at hw; cases hw
      rw [← hc i y hy hw, getD_eq_of_ne hjs hne]
    exact ⟨fun off y hy => by rw [e1]; exact this.1 off y hy, fun K hK => by rw [e2]; exact this.2 K hK⟩
  have hfreev : ∀ i, i < m → (L.setIfInBounds j true).getD i false = false → i ≠ j ∧ L.getD i false = false := fun i hi hh => by
    rw [getD_set hjs] at hh
    split at hh
    · cases hh
    · exact ⟨by assumption, hh⟩
  have hcl := closed_set h.cl hjs ho hedge
  have hwant : ∀ b, wantedS ops σk o.guard = some b → Region.wanted o (yielded ops a.tmps) = b := fun b hb =>
    wanted_of (σ' := σk) h.inv (fun t ht => ⟨huse t (by simp [usesOf, ht]), hbnd j o hj ho t ht⟩) hb
  simp only [wpOp, ho]
  generalize hHk : hsA xs H' j = Hk at *
  generalize hOk : osA xs O' j = Ok at *
  generalize hnk : nsA xs n' j = nk at *
  generalize hHk1 : hsA xs H' (j + 1) = Hk1 at *
  generalize hOk1 : osA xs O' (j + 1) = Ok1 at *
  generalize hnk1 : nsA xs n' (j + 1) = nk1 at *
  have hweak : ∀ R : List Nat, (∀ id, memI R id = true → memI x.R id = true) → ∀ t, (∃ v, lk (restr o σk) t = v ∧ Rep w g v (a.tmps.getD t undef)) := fun _ _ t => by
    refine ⟨_, rfl, ?_⟩
    rcases lk_restr σk (tmpsOf o) t with e | ⟨h1, e⟩
    · unfold restr; rw [e]; trivial
    · unfold restr; rw [e, ← huse t (by simp [usesOf, h1])]; exact h.inv.slots t
  cases one with
  | @val d v R hd hN hg hs1 =>
    rw [if_pos (hwant true hg)]
    refine .inl ?_
    have hinv : Inv N n0 w0 g0 ⟨restr o σk, rH R Hk, rO R Ok, n'⟩ a w g := { h.inv with
      slots := fun t => by obtain ⟨v, e, r⟩ := hweak [] (fun _ h => by simp [memI, idx] at h) t; subst e; exact r
      cells := fun id off y hy => by
        have hi := lkH_rH_some hy
        rw [lkH_rH hi] at hy
        exact h.inv.cells id off y ((hlook id (.inl hi)).1 off y hy)
      owns := fun id K hy => by
        have hi := lkO_rO_some hy
        rw [lkO_rO hi] at hy
        exact h.inv.owns id K ((hlook id (.inl hi)).2 K hy) }
    have hwp : o.wp P a w (fun a' w' => ∃ u top', a' = a.put o.dst u ∧ Rep w' { g with top := top' } v u ∧ PF w g.top w' top') Q := hs1 n' w0 g0 a w g hinv Q
    refine Oper.wp_mono ?_ hwp
    rintro a' w' ⟨u, top', rfl, hr, hp⟩
    obtain ⟨hi', _⟩ := h.inv.called hp
    have hput := hi'.put hr (d := o.dst) (by rw [hd]; simpa [dOk] using hN)
    have e0 : (St.put ⟨σL, HL, OL, n'⟩ o.dst v) = ⟨updS o.dst v σL, HL, OL, n'⟩ := by cases o.dst <;> rfl
    rw [e0] at hput
    refine hK _ _ { g with top := top' } HL OL _ ⟨hput, hslots' v (fun d' hd' => ?_), hmemv (by funext i; rfl) HL OL (fun _ _ => rfl) (fun _ => rfl), fun i hi hh k hk1 hk2 => h.free i hi (hfreev i hi hh).2 k hk1 hk2, hcl⟩
    rw [hdst0 d' hd']
    rw [hd] at hd'; obtain rfl := Option.some.inj hd'
    simp [lk]
  | @no d hd hN hg =>
    rw [if_neg (by rw [hwant false hg]; simp)]
    have hput := h.inv.put (d := o.dst) rep_undef (by rw [hd]; simpa [dOk] using hN)
    have e0 : (St.put ⟨σL, HL, OL, n'⟩ o.dst (.tup [])) = ⟨updS o.dst (.tup []) σL, HL, OL, n'⟩ := by cases o.dst <;> rfl
    rw [e0] at hput
    refine hK _ _ g HL OL _ ⟨hput, hslots' (.tup []) (fun d' hd' => ?_), hmemv (by funext i; rfl) HL OL (fun _ _ => rfl) (fun _ => rfl), fun i hi hh k hk1 hk2 => h.free i hi (hfreev i hi hh).2 k hk1 hk2, hcl⟩
    rw [hdst0 d' hd']
    rw [hd] at hd'; obtain rfl := Option.some.inj hd'
    simp [lk]
  | @eff v n1' H1' O1' R hd hg hs1 hRn hn1 hk1 hk2 hS hHI hOI =>
    have hRlt : ∀ i, (idx R i).isSome = true → i < nk := fun i hi => lessAll_mem hRn hi
    have hnF : nk1 ≤ n' := by
      have h1 : ∀ t, nsA xs n' t ≤ n' := by
        intro t
        by_cases ht : t < xs.length
        · have : ∀ d t, t + d = xs.length → nsA xs n' t ≤ n' := by
            intro d
            induction d with
            | zero => intro t e; simp only [nsA]; rw [List.getElem?_eq_none (by omega)]; exact Nat.le_refl _
            | succ d ih => intro t e; exact Nat.le_trans (hpx.nmono.1 t) (ih (t + 1) (by omega))
          exact this (xs.length - t) t (by omega)
        · simp only [nsA]; rw [List.getElem?_eq_none (by omega)]; exact Nat.le_refl _
      rw [← hnk1]; exact h1 _
    have hnk0 : n ≤ nk := by
      have : ∀ t, n ≤ nsA xs n' t := by
        intro t
        induction t with
        | zero => rw [hpx.zero.2.2]; exact Nat.le_refl _
        | succ t ih => exact Nat.le_trans ih (hpx.nmono.1 t)
      rw [← hnk]; exact this j
    have hfr : ∀ k, nk ≤ k → k < nk1 → Free g k := fun k h1 h2 => h.free j hj hjf k (by rw [hnk]; exact h1) (by rw [hnk1]; exact h2)
    have hinv : Inv N nk w (only g R) ⟨restr o σk, rH R Hk, rO R Ok, nk⟩ a w (only g R) := {
      defers := h.inv.defers
      size := h.inv.size
      slots := fun t => by
        obtain ⟨v, e, r⟩ := hweak [] (fun _ h => by simp [memI, idx] at h) t
        subst e; exact Rep.only R _ _ hS.lk r
      cells := fun id off y hy => by
        have hi := lkH_rH_some hy
        have hin := hHI.lk hy
        rw [lkH_rH hi] at hy
        obtain ⟨b, c, e, hb, hw, v, hv, r⟩ := h.inv.cells id off y ((hlook id (.inl hi)).1 off y hy)
        exact ⟨b, c, e, by simp [only, hi, hb], hw, v, hv, Rep.only R _ _ hin r⟩
      owns := fun id K hy => by
        have hi := lkO_rO_some hy
        have hin := hOI.lk hy
        rw [lkO_rO hi] at hy
        exact Kind.only (h.inv.owns id K ((hlook id (.inl hi)).2 K hy)) hin hi
      wf := only_wf h.inv.wf hRlt
      frame := Frame.refl _ _ _
      nle := Nat.le_refl _
      laid := h.inv.laidNow.owner fun b hb => by simp [only, hb] }
    have hwl := hs1 w (only g R) a w (only g R) hinv
    rw [if_pos (hwant true hg)]
    refine .inl ?_
    unfold wpList at hwl
    rw [if_pos (by rfl)] at hwl
    have hnoL : ¬ LetsOut (Post.at N nk w (only g R) (fun e s' => e = .normal ∧ s' = ⟨updS o.dst v (restr o σk), H1', O1', nk1⟩)) := by
      rintro ⟨a', w', s', g', ⟨e, _⟩, _⟩; cases e
    have hwp : o.wp P a w (wpList P ops (Post.at N nk w (only g R) (fun e s' => e = .normal ∧ s' = ⟨updS o.dst v (restr o σk), H1', O1', nk1⟩)) []) (Post.at N nk w (only g R) (fun e s' => e = .normal ∧ s' = ⟨updS o.dst v (restr o σk), H1', O1', nk1⟩)) := by
      rcases hwl with hwl | hwl
      · exact hwl
      · exact absurd hwl.2 hnoL
    refine Oper.wp_mono ?_ (wp_put (by rintro c a' w' ⟨s', g', ⟨e, _⟩, _⟩; cases e) hnoL hwp)
    rintro a' w' ⟨⟨s', gc, ⟨_, rfl⟩, hi'⟩, u, hu⟩
    have hw := h.inv.wf
    have hwc : WF gc w' nk1 := hi'.wf
    have hf := hi'.frame
    have hmono := mrg_mono hw hRlt hfr hwc hn1 hnF hf
    have hup := mrg_up hw hRlt hfr hwc hn1 hnF hf
    have hWin : ∀ i, memI (R ++ List.range' nk (nk1 - nk)) i = (memI R i || (Nat.ble nk i && Nat.blt i nk1)) := fun i => by
      rw [memI_app, memI_range, show nk + (nk1 - nk) = nk1 by omega]
    refine hK a' w' (mrg g gc R nk nk1) (newH (R ++ List.range' nk (nk1 - nk)) H1' HL) (newO (R ++ List.range' nk (nk1 - nk)) O1' OL) (updS o.dst v σL) ⟨?_, hslots' v (fun d' hd' => ?_), ?_, ?_, hcl⟩
    · exact {
        defers := hi'.defers
        size := hi'.size
        slots := fun t => by
          have hold : o.dst ≠ some t → Rep w' (mrg g gc R nk nk1) (lk σL t) (a'.tmps.getD t undef) := fun hne => by
            have e : a'.tmps.getD t undef = a.tmps.getD t undef := by
              rw [hu]
              cases hd' : o.dst with
              | none => rfl
              | some d =>
                simp only [Act.put]
                have : d ≠ t := fun e => hne (by rw [hd', e])
                rw [Array.getD_eq_getD_getElem?, Array.getD_eq_getD_getElem?, Array.getElem?_setIfInBounds, if_neg this]
            rw [e]; exact (h.inv.slots t).mono _ _ hmono
          show Rep w' _ (lk (updS o.dst v σL) t) _
          cases hd' : o.dst with
          | none => rw [hd'] at hold; exact hold (by simp)
          | some d =>
            simp only [updS, lk]
            by_cases hb : Nat.beq d t = true
            · rw [if_pos hb]
              have e : d = t := by simpa using hb
              subst e
              have := hi'.slots d
              rw [hd'] at this
              simp only [updS, lk, Nat.beq_refl, if_true] at this
              exact this.mono _ _ hup
            · rw [if_neg hb]
              exact hold (by rw [hd']; intro e; exact hb (by simp [Option.some.inj e]))
        cells := fun i p y hy => by
          simp only [newH] at hy
          rw [lkH_app] at hy
          cases h1 : lkH H1' i p with
          | some z =>
            simp only [h1, Option.some.injEq] at hy
            subst hy
            obtain ⟨b, c, e, hb, hw1, v1, hv1, r⟩ := hi'.cells i p _ h1
            exact ⟨b, c, e, hup.blk _ _ hb, hw1, v1, hv1, r.mono _ _ hup⟩
          | none =>
            simp only [h1] at hy
            obtain ⟨hy, hd1⟩ := lkH_dropH hy
            obtain ⟨b, c, e, hb, hw1, v1, hv1, r⟩ := h.inv.cells i p y hy
            have hout : memI (R ++ List.range' nk (nk1 - nk)) i = false := by unfold memI; rw [hd1]; rfl
            have hR0 : (idx R i).isSome = false := by
              rw [hWin] at hout; simp only [Bool.or_eq_false_iff] at hout; exact hout.1
            obtain ⟨_, _, q3, _⟩ := mrg_none hw hRlt hfr hwc hn1 hnF hf (hw.blkOwner i b hb).1 hR0
            exact ⟨b, c, e, hmono.blk _ _ hb, by rw [q3]; exact hw1, v1, hv1, r.mono _ _ hmono⟩
        owns := fun i K hy => by
          simp only [newO] at hy
          rw [lkO_app] at hy
          cases h1 : lkO O1' i with
          | some z =>
            simp only [h1, Option.some.injEq] at hy
            subst hy
            exact mrg_kind hw hRlt hfr hwc hn1 hnF hf (hi'.owns i _ h1)
          | none =>
            simp only [h1] at hy
            obtain ⟨hy, hd1⟩ := lkO_dropO hy
            have hout : memI (R ++ List.range' nk (nk1 - nk)) i = false := by unfold memI; rw [hd1]; rfl
            have hR0 : (idx R i).isSome = false := by
              rw [hWin] at hout; simp only [Bool.or_eq_false_iff] at hout; exact hout.1
            exact mrg_keep hw hRlt hfr hwc hn1 hnF hf (h.inv.owns i K hy) hR0
        wf := mrg_wf hw hRlt hfr hwc hn1 hnF hf
        frame := mrg_frame hw hRlt hfr hwc hn1 hnF hf h.inv.frame (by omega)
        nle := h.inv.nle
        laid := h.inv.laid }
    · rw [hdst0 d' hd', hd']; simp [updS, lk]
    · intro id t ht hc
      cases hW : memI (R ++ List.range' nk (nk1 - nk)) id with
      | false =>
        have := h.mem id t ht fun i y hy hw2 => by
          have hne : i ≠ j := fun e => by subst e; rw [hxj] at hy; obtain rfl := Option.some.inj hy; rw [hW] at hw2; cases hw2
          rw [← hc i y hy hw2, getD_eq_of_ne hjs hne]
        exact ⟨fun off y hy => by rw [newH_out hk1 hW]; exact this.1 off y hy, fun K hK => by rw [newO_out hk2 hW]; exact this.2 K hK⟩
      | true =>
        have hjt : j < t := (hc j _ hxj hW).1 (by rw [getD_set hjs]; simp)
        have hno : ∀ i y, xs[i]? = some y → j < i → i < t → memI y.W id = false := fun i y hy h1 h2 => by
          cases hw2 : memI y.W id with
          | false => rfl
          | true =>
            exfalso
            have h3 := (hc i y hy hw2).2 h2
            rw [getD_eq_of_ne hjs (by omega)] at h3
            have h4 : L.getD i false = false := hafter i y hy h1 (clash_W hW (.inr hw2))
            rw [h3] at h4; cases h4
        have hsame : ∀ d, j + 1 + d ≤ t → (∀ off, lkH (hsA xs H' (j + 1 + d)) id off = lkH (hsA xs H' (j + 1)) id off) ∧ lkO (osA xs O' (j + 1 + d)) id = lkO (osA xs O' (j + 1)) id := by
          intro d
          induction d with
          | zero => intro _; exact ⟨fun _ => rfl, rfl⟩
          | succ d ih =>
            intro hd2
            have ih2 := ih (by omega)
            have hi : j + 1 + d < m := by omega
            have hli : l[j + 1 + d]? = some (ops[j + 1 + d]'(by omega)) := by
              rw [hl, List.getElem?_take]; simp [hi]
            obtain ⟨y, s1, s2, hy, one2, _⟩ := hpx.at hok (j + 1 + d) _ hli
            have := one2.facts.2.2.2.2.2.1 id (hno _ y hy (by omega) (by omega))
            exact ⟨fun off => (this.1 off).trans (ih2.1 off), this.2.trans ih2.2⟩
        have hs := hsame (t - (j + 1)) (by omega)
        rw [show j + 1 + (t - (j + 1)) = t by omega, hHk1, hOk1] at hs
        refine ⟨fun off y hy => ?_, fun K hK => ?_⟩
        · rw [hs.1 off, newH_in hW] at hy
          rw [newH_in hW]; exact hy
        · rw [hs.2, newO_in hW] at hK
          rw [newO_in hW]; exact hK
    · intro i hi hh k hk3 hk4
      obtain ⟨hne, hLi⟩ := hfreev i hi hh
      have hF := h.free i hi hLi k hk3 hk4
      have hnm := hpx.nmono.1
      have hle : ∀ d t, nsA xs n' t ≤ nsA xs n' (t + d) := by
        intro d
        induction d with
        | zero => intro t; exact Nat.le_refl _
        | succ d ih => intro t; exact Nat.le_trans (ih t) (hnm (t + d))
      obtain ⟨y, s1, s2, hy, one2, _⟩ := hpx.at hok i _ (show l[i]? = some (ops[i]'(by omega)) by rw [hl, List.getElem?_take]; simp [hi])
      have hWk : memI y.W k = true := one2.facts.2.2.2.2.2.2.1 k hk3 hk4
      refine mrg_free hw hRlt hfr hwc hn1 hnF hf hF ?_ ?_
      · rintro ⟨h1, h2⟩
        rcases Nat.lt_or_gt_of_ne hne with h3 | h3
        · have := hle (j - (i + 1)) (i + 1)
          rw [show i + 1 + (j - (i + 1)) = j by omega, hnk] at this
          omega
        · have := hle (i - (j + 1)) (j + 1)
          rw [show j + 1 + (i - (j + 1)) = i by omega, hnk1] at this
          omega
      · cases hkR : (idx R k).isSome with
        | false => rfl
        | true =>
          exfalso
          rcases Nat.lt_or_gt_of_ne hne with h3 | h3
          · have := hbefore i y hy h3 (clash_W hWk (.inl hkR))
            rw [hLi] at this; cases this
          · have h5 := hRlt k hkR
            have := hle (i - j) j
            rw [show j + (i - j) = i by omega, hnk] at this
            omega
end
end Go.Pv

/- The rules of the walk through a region that draws its order and changes things. -/
namespace Go.Pv
open Go.RowKit (Below)
set_option linter.unusedSimpArgs false
set_option linter.unusedSectionVars false
set_option linter.unusedVariables false

section
variable {P : Program} [Tab P] {N n0 : Nat} {ops : Array Oper} {σ σ' : List (Nat × AV)} {H H' : List (Nat × Nat × AV)} {O O' : List (Nat × Kind)} {n n' : Nat} {xs : List XI} {w0 : World} {g0 : G}

theorem okX_nodup : ∀ {l : List Oper}, okX ops l = true → ∀ (i j : Nat) (o o' : Oper) (t : Nat), l[i]? = some o → l[j]? = some o' → o.dst = some t → o'.dst = some t → i = j
  | [], _, i, _, _, _, _, h, _, _, _ => by simp at h
  | q :: l, h, i, j, o, o', t, hi, hj, ho, ho' => by
    cases i with
    | zero =>
      simp at hi; subst hi
      cases j with
      | zero => rfl
      | succ j =>
        have hm : o' ∈ l := List.mem_of_getElem? (by simpa using hj)
        exact absurd ho' ((okX_cons h).2.2 t (.inl ho) o' hm)
    | succ i =>
      have hm : o ∈ l := List.mem_of_getElem? (by simpa using hi)
      cases j with
      | zero =>
        simp at hj; subst hj
        exact absurd ho ((okX_cons h).2.2 t (.inl ho') o hm)
      | succ j => rw [okX_nodup (okX_cons h).1 i j o o' t (by simpa using hi) (by simpa using hj) ho ho']

theorem px_run {m : Nat} {ps : List (List Nat)} {Q : Post} (hm : m ≤ ops.size) (h1 : chkDep ops m = true) (h2 : chkPost ops m = true) (h3 : chkBack ops = true) (h4 : chkG N ops m = true) (hok : okX ops (ops.toList.take m) = true)
    (hx : chkX ops xs ps = true) (hn0 : n0 ≤ n) (hpx : PX P N n0 ops (ops.toList.take m) σ H O n xs σ' H' O' n') (k : aops P N n0 ops (ops.toList.drop m) Q ⟨σ', H', O', n'⟩) :
    ∀ (fuel : Nat) (L : Array Bool) (a : Act) (w : World) (g : G) (HL : List (Nat × Nat × AV)) (OL : List (Nat × Kind)) (σL : List (Nat × AV)), JX P N n0 ops m xs σ' H' O' n' w0 g0 L a w g HL OL σL → L.size = ops.size →
      (∀ i, m ≤ i → i < ops.size → L.getD i true = false) → undone m L + (ops.size - m) ≤ fuel → wpAny P .any ops (Q.at N n0 w0 g0) fuel L a w := by
  have hget : ∀ i, i < m → (ops.toList.take m)[i]? = ops[i]? := fun i hi => by rw [List.getElem?_take]; simp [hi]
  have hxl : xs.length = m := by rw [hpx.len]; simp; omega
  have hdone : ∀ (fuel : Nat) (L : Array Bool) (a : Act) (w : World) (g : G) (HL : List (Nat × Nat × AV)) (OL : List (Nat × Kind)) (σL : List (Nat × AV)), JX P N n0 ops m xs σ' H' O' n' w0 g0 L a w g HL OL σL → L.size = ops.size →
      (∀ i, m ≤ i → i < ops.size → L.getD i true = false) → (∀ i, i < m → L.getD i true = true) → ops.size - m ≤ fuel → wpAny P .any ops (Q.at N n0 w0 g0) fuel L a w := by
    intro fuel L a w g HL OL σL hJ hs hp hd hf
    have hmem := fun id => hJ.mem id m (Nat.le_refl _) fun i y hy _ => by
      have hi : i < m := by have := (List.getElem?_eq_some_iff.1 hy).1; omega
      rw [getD_both (by omega) false true, hd i hi]; simp [hi]
    have e1 : hsA xs H' m = H' := by simp only [hsA]; rw [List.getElem?_eq_none (by omega)]
    have e2 : osA xs O' m = O' := by simp only [osA]; rw [List.getElem?_eq_none (by omega)]
    refine post_run h2 h3 fuel m L a w (Nat.le_refl _) hm hs (fun i hi => ?_) hf (k w0 g0 a w g { hJ.inv with
      slots := fun t => ?_
      cells := fun id off x hx => ?_
      owns := fun id K hx => ?_ })
    · by_cases him : i < m
      · rw [hd i him]; simp [him]
      · rw [hp i (by omega) hi]; simp [him]
    · show Rep w g (lk σ' t) _
      rw [← hJ.slots t fun i o hi _ _ => by rw [getD_both (by omega) false true]; exact hd i hi]
      exact hJ.inv.slots t
    · exact hJ.inv.cells id off x ((hmem id).1 off x (by rw [e1]; exact hx))
    · exact hJ.inv.owns id K ((hmem id).2 K (by rw [e2]; exact hx))
  intro fuel
  induction fuel with
  | zero =>
    intro L a w g HL OL σL hJ hs hp hf
    refine hdone 0 L a w g HL OL σL hJ hs hp (fun i hi => ?_) (by omega)
    cases hh : L.getD i true with
    | true => rfl
    | false =>
      have : 0 < undone m L := List.length_pos_of_mem (a := i) (List.mem_filter.2 ⟨List.mem_range.2 hi, by simp [hh]⟩)
      omega
  | succ fuel ih =>
    intro L a w g HL OL σL hJ hs hp hf
    by_cases hall : ∃ j, j < m ∧ L.getD j true = false
    · obtain ⟨j, ⟨hj, hjL⟩, hleast⟩ := least_of hall
      have hjo : ops[j]? = some (ops[j]'(by omega)) := Array.getElem?_eq_getElem (by omega)
      have hready : j ∈ Region.ready .any ops L := by
        refine ready_of hjo hjL fun e he hbd => ?_
        have hb := h3
        unfold chkBack at hb
        rw [List.all_eq_true] at hb
        have hb2 := hb j (List.mem_range.2 (by omega))
        rw [hjo] at hb2
        simp only at hb2
        rw [← Array.all_toList, List.all_eq_true] at hb2
        have hb3 := hb2 e he
        simp only [hbd, Bool.not_true, Bool.false_or] at hb3
        have hlt : e.on < j := by simpa using hb3
        rw [getD_both (by omega) false true]
        cases hh : L.getD e.on true with
        | true => rfl
        | false => exact absurd (hleast e.on ⟨by omega, hh⟩) (by omega)
      refine ⟨fun h0 => (by rw [h0] at hready; cases hready), fun i hi => ?_⟩
      obtain ⟨o, ho, his, hiL, hedge⟩ := mem_ready hi
      have him : i < m := by
        refine Classical.byContradiction fun hge => ?_
        have hpst := h2
        unfold chkPost at hpst
        rw [List.all_eq_true] at hpst
        have h8 := hpst i (List.mem_range.2 his)
        rw [ho] at h8
        simp only [Bool.or_eq_true] at h8
        rcases h8 with h8 | h8
        · have : i < m := by simpa using h8
          omega
        · rw [List.all_eq_true] at h8
          have h9 := hasEdge_of (h8 j (List.mem_range.2 (by omega))) hedge
          rw [getD_both (by omega) false true, hjL] at h9
          cases h9
      refine hJ.step hpx rfl hok hx hm hs hn0 ?_ ?_ him ho hiL hedge ?_ ?_
      · intro i o hi ho t ht
        have hg := h4
        unfold chkG at hg
        rw [List.all_eq_true] at hg
        have hg2 := hg i (List.mem_range.2 hi)
        rw [ho] at hg2
        simp only at hg2
        rw [List.all_eq_true] at hg2
        simpa using hg2 t ht
      · intro i o hi ho t ht i' o' hi' ho' ht'
        exact (okX_nodup hok i i' o o' t (by rw [hget i hi]; exact ho) (by rw [hget i' hi']; exact ho') ht ht').symm
      · intro t ht i' o' hi' ho' ht'
        have hd := h1
        unfold chkDep at hd
        rw [List.all_eq_true] at hd
        have hd2 := hd i (List.mem_range.2 him)
        rw [ho] at hd2
        simp only at hd2
        rw [List.all_eq_true] at hd2
        have hd3 := hd2 i' (List.mem_range.2 hi')
        rw [ho'] at hd3
        simp only [Option.bind_some, ht'] at hd3
        rw [if_pos (by rw [List.contains_eq_mem]; simpa using ht)] at hd3
        exact hasEdge_of hd3 hedge
      · intro a' w' g' HL' OL' σL' hJ'
        refine ih _ a' w' g' HL' OL' σL' hJ' (by simp [hs]) (fun q hq hqs => ?_) ?_
        · rw [getD_set (by omega), if_neg (by omega)]
          exact hp q hq hqs
        · have : undone m (L.setIfInBounds i true) + 1 ≤ undone m L := by
            refine filter_less (j := i) (fun q hq h => ?_) (List.mem_range.2 him) (by simp [hiL]) (by simp [getD_set (show i < L.size by omega)])
            rw [getD_set (by omega)] at h
            split at h
            · simp at h
            · exact h
          omega
    · refine hdone _ L a w g HL OL σL hJ hs hp (fun i hi => ?_) (by omega)
      cases hh : L.getD i true with
      | true => rfl
      | false => exact absurd ⟨i, hi, hh⟩ hall

def DX (P : Program) [Tab P] (N n0 : Nat) (ops : Array Oper) (l : List Oper) (σ : List (Nat × AV)) (H : List (Nat × Nat × AV)) (O : List (Nat × Kind)) (n : Nat) (C : List XI → Prop) (K : St → Prop) : Prop :=
  ∃ xs σ' H' O' n', PX P N n0 ops l σ H O n xs σ' H' O' n' ∧ C xs ∧ K ⟨σ', H', O', n'⟩

theorem repl_false {k : Nat} {i : Nat} : (Array.replicate k false).getD i false = false := by
  rw [Array.getD_eq_getD_getElem?]
  simp [Array.getElem?_replicate]
  split <;> rfl

/-- A region that draws its order, and changes things. ps: how what touches one thing is ordered. -/
theorem awp_dx {id m : Nat} {l : List Oper} {Q : Post} (ps : List (List Nat)) (hmix : P.follows .mixedOrders = true) (hm : Nat.ble m l.length = true) (h1 : chkDep l.toArray m = true) (h2 : chkPost l.toArray m = true) (h3 : chkBack l.toArray = true)
    (h4 : chkG N l.toArray m = true) (hok : okX l.toArray (l.take m) = true) (k : DX P N n0 l.toArray (l.take m) σ H O n (fun xs => chkX l.toArray xs ps = true) (aops P N n0 l.toArray (l.drop m) Q)) :
    awp P N n0 (.region id l.toArray true) Q ⟨σ, H, O, n⟩ := by
  obtain ⟨xs, σ', H', O', n', hpx, hx, k⟩ := k
  intro w0 g0 a w g hi
  have hle : m ≤ l.length := by simpa using hm
  refine wp_region_any hmix ?_
  have hp : PF w g.top { w with drawn := w.drawn + 1 } g.top := ⟨(Below.refl w.heap.size w).drew, fun _ _ => rfl, hi.wf.topNew⟩
  have hi1 := (hi.called hp).1
  have hnn := hpx.nmono.2
  have hlow : ∀ t, n ≤ nsA xs n' t := by
    intro t
    induction t with
    | zero => rw [hpx.zero.2.2]; exact Nat.le_refl _
    | succ t ih => exact Nat.le_trans ih (hpx.nmono.1 t)
  have hpx' : PX P N n0 l.toArray (l.toArray.toList.take m) σ H O n xs σ' H' O' n' := hpx
  have hxl : xs.length = m := by rw [hpx.len]; simp; omega
  refine px_run (σ := σ) (H := H) (O := O) (n := n) (by simpa using hle) h1 h2 h3 h4 (by simpa using hok) hx hi.nle hpx' (by simpa using k) _ _ a _ { g with top := g.top } H O σ
    ⟨{ hi1 with
      wf := { hi1.wf with
        blkOwner := fun id b hb => by
          obtain ⟨k1, k2, k3, k4⟩ := hi1.wf.blkOwner id b hb
          exact ⟨k1, k2, k3, Nat.lt_of_lt_of_le k4 hnn⟩
        ownLt := fun id v hv => Nat.lt_of_lt_of_le (hi1.wf.ownLt id v hv) hnn
        idLt := fun b i hb => Nat.lt_of_lt_of_le (hi1.wf.idLt b i hb) hnn }
      nle := Nat.le_trans hi1.nle hnn
      laid := hi1.laid }, ?_, ?_, ?_, ?_⟩ (by simp) ?_ ?_
  · intro t ht
    refine (hpx.lk_same t fun o ho hd => ?_).symm
    obtain ⟨i, hi'⟩ := List.mem_iff_getElem?.1 ho
    rw [List.getElem?_take] at hi'
    split at hi'
    · rename_i him
      have := ht i o him (by simpa using hi') hd
      rw [repl_false] at this; cases this
    · cases hi'
  · intro id t ht hc
    have hno : ∀ i y, xs[i]? = some y → i < t → memI y.W id = false := fun i y hy h1 => by
      cases hw2 : memI y.W id with
      | false => rfl
      | true => have := (hc i y hy hw2).2 h1; rw [repl_false] at this; cases this
    have hsame : ∀ d, d ≤ t → (∀ off, lkH (hsA xs H' d) id off = lkH H id off) ∧ lkO (osA xs O' d) id = lkO O id := by
      intro d
      induction d with
      | zero => intro _; obtain ⟨e1, e2, _⟩ := hpx.zero; exact ⟨fun _ => by rw [e1], by rw [e2]⟩
      | succ d ih =>
        intro hd2
        have ih2 := ih (by omega)
        have hli : (l.take m)[d]? = some (l[d]'(by omega)) := by
          rw [List.getElem?_take]; simp [show d < m by omega]
        obtain ⟨y, s1, s2, hy, one2, _⟩ := hpx.at hok d _ hli
        have := one2.facts.2.2.2.2.2.1 id (hno _ y hy (by omega))
        exact ⟨fun off => (this.1 off).trans (ih2.1 off), this.2.trans ih2.2⟩
    have hs := hsame t (Nat.le_refl _)
    exact ⟨fun off y hy => by rw [hs.1] at hy; exact hy, fun K hK => by rw [hs.2] at hK; exact hK⟩
  · intro i hi' _ k hk1 hk2
    have hk : n ≤ k := Nat.le_trans (hlow i) hk1
    refine ⟨?_, ?_, fun b hb => ?_⟩
    · cases hb : g.blk k with
      | none => rfl
      | some b => have := (hi.wf.blkOwner _ _ hb).2.2.2; simp only at this; omega
    · cases hb : g.own k with
      | none => rfl
      | some b => have := hi.wf.ownLt _ _ hb; simp only at this; omega
    · have := hi.wf.idLt b k hb; simp only at this; omega
  · intro j o _ hj; rw [repl_false] at hj; cases hj
  · intro i _ his
    rw [Array.getD_eq_getD_getElem?]
    simp at his
    simp [Array.getElem?_replicate, his]
  · have : undone m (Array.replicate l.toArray.size false) ≤ m := by
      unfold undone
      exact Nat.le_trans (List.length_filter_le _ _) (by simp)
    simp at hle ⊢
    simp at this
    omega
end

/-! ### the rules -/

section
variable {P : Program} [Tab P] {N n0 : Nat} {Q : Post} {ops : Array Oper} {rest : List Oper} {σ : List (Nat × AV)} {H H2 : List (Nat × Nat × AV)} {O O2 : List (Nat × Kind)} {n i : Nat}
  {d : Nat} {dst : Option Tmp} {op : Op} {ty : TypeId} {pos : String} {af : Array Edge} {gd : Option (Nat × Bool)} {C : List XI → Prop} {K : St → Prop}

theorem xn (hc : C []) (h : K ⟨σ, H, O, n⟩) : DX P N n0 ops [] σ H O n C K := ⟨[], σ, H, O, n, .nil, hc, h⟩
theorem xS (R : List Nat) {v : AV} (hd : Nat.blt d N = true) (hg : wantedS ops σ gd = some true) (hs : ∀ m, Step P N n0 ⟨restr ⟨some d, op, ty, pos, af, gd⟩ σ, rH R H, rO R O, m⟩ ⟨some d, op, ty, pos, af, none⟩ v)
    (k : DX P N n0 ops rest ((d, v) :: σ) H O n (fun xs => C (⟨R, [], H, O, n⟩ :: xs)) K) : DX P N n0 ops (⟨some d, op, ty, pos, af, gd⟩ :: rest) σ H O n C K := by
  obtain ⟨xs, σ', H', O', n', hp, hc, hk⟩ := k
  exact ⟨_, σ', H', O', n', .cons (.val R rfl hd hg hs) hp, hc, hk⟩
theorem xv (R : List Nat) {v : AV} (hd : Nat.blt d N = true) (hg : wantedS ops σ gd = some true) (hv : ∀ m, nfO (opv P ⟨restr ⟨some d, op, ty, pos, af, gd⟩ σ, rH R H, rO R O, m⟩ op) = some v)
    (k : DX P N n0 ops rest ((d, v) :: σ) H O n (fun xs => C (⟨R, [], H, O, n⟩ :: xs)) K) : DX P N n0 ops (⟨some d, op, ty, pos, af, gd⟩ :: rest) σ H O n C K :=
  xS R hd hg (fun m => step_val (by have := hv m; rwa [nfO_eq] at this)) k
theorem xV (R : List Nat) {v : AV} (hd : Nat.blt d N = true) (hg : wantedS ops σ gd = some true) (hv : ∀ m, ValAt P N n0 ⟨restr ⟨some d, op, ty, pos, af, gd⟩ σ, rH R H, rO R O, m⟩ op v)
    (k : DX P N n0 ops rest ((d, v) :: σ) H O n (fun xs => C (⟨R, [], H, O, n⟩ :: xs)) K) : DX P N n0 ops (⟨some d, op, ty, pos, af, gd⟩ :: rest) σ H O n C K :=
  xS R hd hg (fun m => step_value fun w0 g0 a w g hi => hv m _ rfl w0 g0 a w g hi) k
theorem va_idx {s : St} {t e : TypeId} {x ix : Operand} {j je : TI} {k : IntKind} {iv : Int} {xs : List (List AV)} {r : List AV} (ht : ti P t = some j) (hk : j.k = .slice e) (he : ti P e = some je) (hx : evs s x = .sl xs) (hi : ev s.σ ix = .int k iv)
    (h0 : 0 ≤ iv) (hr : xs[iv.toNat]? = some r) (hw : Wide je.size xs) : ValAt P N n0 s (.indexAddr t x ix) (.rd r) := by
  rintro ⟨dst, op, type, pos, after, guard⟩ rfl w0 g0 a w g hin
  have h1 := rep_evs hin x
  rw [hx] at h1
  have h2 := rep_ev hin.slots ix
  rw [hi] at h2
  obtain ⟨q, hq, hrq⟩ := index_run ht hk he h1 h2 h0 hr hw
  exact ⟨q, run_value hq, hrq⟩
theorem xno (hd : Nat.blt d N = true) (hg : wantedS ops σ gd = some false) (k : DX P N n0 ops rest ((d, .tup []) :: σ) H O n (fun xs => C (⟨[], [], H, O, n⟩ :: xs)) K) : DX P N n0 ops (⟨some d, op, ty, pos, af, gd⟩ :: rest) σ H O n C K := by
  obtain ⟨xs, σ', H', O', n', hp, hc, hk⟩ := k
  exact ⟨_, σ', H', O', n', .cons (.no rfl hd hg) hp, hc, hk⟩
theorem xs_ {j e : Nat} {want b : Bool} (hj : gslot ops j = some e) (hb : lk σ e = .bool b) (yes : b = true → DX P N n0 ops (⟨dst, op, ty, pos, af, some (j, want)⟩ :: rest) ((e, .bool true) :: σ) H O n C K)
    (no : b = false → DX P N n0 ops (⟨dst, op, ty, pos, af, some (j, want)⟩ :: rest) ((e, .bool false) :: σ) H O n C K) : DX P N n0 ops (⟨dst, op, ty, pos, af, some (j, want)⟩ :: rest) σ H O n C K := by
  cases b with
  | true =>
    obtain ⟨xs, σ', H', O', n', hp, hc, hk⟩ := yes rfl
    exact ⟨xs, σ', H', O', n', .eqv (lk_dup hb) hp, hc, hk⟩
  | false =>
    obtain ⟨xs, σ', H', O', n', hp, hc, hk⟩ := no rfl
    exact ⟨xs, σ', H', O', n', .eqv (lk_dup hb) hp, hc, hk⟩
theorem xc (R : List Nat) {fop : Operand} {args : Array Operand} {ats : Array TypeId} {f : FuncId} {r : AV} (hd : Nat.blt d N = true) (hg : wantedS ops σ gd = some true)
    (hr : ev (restr ⟨some d, .call ⟨.value fop, args, ats⟩, ty, pos, af, gd⟩ σ) fop = .fn f [])
    (hc : ∀ m, limL 0 (args.toList.map (evs ⟨restr ⟨some d, .call ⟨.value fop, args, ats⟩, ty, pos, af, gd⟩ σ, rH R H, rO R O, m⟩)) = true)
    (call : ∀ m, PCall P f (args.toList.map (evs ⟨restr ⟨some d, .call ⟨.value fop, args, ats⟩, ty, pos, af, gd⟩ σ, rH R H, rO R O, m⟩)) (· = r))
    (k : DX P N n0 ops rest ((d, r) :: σ) H O n (fun xs => C (⟨R, [], H, O, n⟩ :: xs)) K) : DX P N n0 ops (⟨some d, .call ⟨.value fop, args, ats⟩, ty, pos, af, gd⟩ :: rest) σ H O n C K :=
  xS R hd hg (fun m => step_call (caps := []) rfl hr (by rw [List.append_nil]; exact hc m) (by rw [List.append_nil]; exact call m)) k
theorem xf (R : List Nat) {fop : Operand} {args : Array Operand} {ats : Array TypeId} {f : FuncId} {caps : List AV} {r : AV} (hd : Nat.blt d N = true) (hg : wantedS ops σ gd = some true)
    (hf : ev (restr ⟨some d, .call ⟨.value fop, args, ats⟩, ty, pos, af, gd⟩ σ) fop = .fn f caps)
    (call : ∀ m, PCall P f ((args.toList.map (evs ⟨restr ⟨some d, .call ⟨.value fop, args, ats⟩, ty, pos, af, gd⟩ σ, rH R H, rO R O, m⟩) ++ caps).map (frz (rH R H) 8)) (· = r)) (hr : flat r = true)
    (k : DX P N n0 ops rest ((d, r) :: σ) H O n (fun xs => C (⟨R, [], H, O, n⟩ :: xs)) K) : DX P N n0 ops (⟨some d, .call ⟨.value fop, args, ats⟩, ty, pos, af, gd⟩ :: rest) σ H O n C K :=
  xS R hd hg (fun m => step_callF (s := ⟨_, _, _, m⟩) rfl hf (call m) hr) k
theorem xt {v v' : AV} (h : v = v') (k : DX P N n0 ops rest ((d, v') :: σ) H O n C K) : DX P N n0 ops rest ((d, v) :: σ) H O n C K := h ▸ k

def chkE (R : List Nat) (n n1 : Nat) (H1 : List (Nat × Nat × AV)) (O1 : List (Nat × Kind)) : Bool := lessAll n R && Nat.ble n n1 && keysH (R ++ List.range' n (n1 - n)) H1 && keysO (R ++ List.range' n (n1 - n)) O1
/-- An operation that changes, or makes, things; R: what it touches. -/
theorem xe (R : List Nat) (v : AV) (n1 : Nat) (H1 : List (Nat × Nat × AV)) (O1 : List (Nat × Kind)) (hd : dOk N dst = true) (hg : wantedS ops σ gd = some true)
    (hs : aops P N n ops [⟨dst, op, ty, pos, af, none⟩] (fun e s' => e = .normal ∧ s' = ⟨updS dst v (restr ⟨dst, op, ty, pos, af, gd⟩ σ), H1, O1, n1⟩) ⟨restr ⟨dst, op, ty, pos, af, gd⟩ σ, rH R H, rO R O, n⟩)
    (hc : chkE R n n1 H1 O1 = true) (hS : SIn R (restr ⟨dst, op, ty, pos, af, gd⟩ σ)) (hH : HIn R (rH R H)) (hO : OIn R (rO R O))
    (eH : nfHH (newH (R ++ List.range' n (n1 - n)) H1 H) some = some H2) (eO : nfOO (newO (R ++ List.range' n (n1 - n)) O1 O) some = some O2)
    (k : DX P N n0 ops rest (updS dst v σ) H2 O2 n1 (fun xs => C (⟨R, R ++ List.range' n (n1 - n), H, O, n⟩ :: xs)) K) : DX P N n0 ops (⟨dst, op, ty, pos, af, gd⟩ :: rest) σ H O n C K := by
  rw [nfHH_eq] at eH; rw [nfOO_eq] at eO
  obtain rfl := Option.some.inj eH; obtain rfl := Option.some.inj eO
  simp only [chkE, Bool.and_eq_true, Nat.ble_eq] at hc
  obtain ⟨xs, σ', H', O', n', hp, hc', hk⟩ := k
  exact ⟨_, σ', H', O', n', .cons (.eff R hd hg hs hc.1.1.1 hc.1.1.2 hc.1.2 hc.2 hS hH hO) hp, hc', hk⟩
def sInB (R : List Nat) (σ : List (Nat × AV)) : Bool := σ.all fun e => e.2.inR R
def hInB (R : List Nat) (H : List (Nat × Nat × AV)) : Bool := H.all fun e => e.2.2.inR R
def oInB (R : List Nat) (O : List (Nat × Kind)) : Bool := O.all fun e => match e.2 with
  | .row _ _ => true
  | .wr _ xs => inRLL R xs
  | .map ks vs => inRL R ks && inRL R vs
  | .sem _ => true
theorem sInB_ok {R : List Nat} : ∀ {σ : List (Nat × AV)}, sInB R σ = true → SIn R σ
  | [], _ => trivial
  | e :: r, h => by simp only [sInB, List.all_cons, Bool.and_eq_true] at h; exact ⟨h.1, sInB_ok h.2⟩
theorem hInB_ok {R : List Nat} : ∀ {H : List (Nat × Nat × AV)}, hInB R H = true → HIn R H
  | [], _ => trivial
  | e :: r, h => by simp only [hInB, List.all_cons, Bool.and_eq_true] at h; exact ⟨h.1, hInB_ok h.2⟩
theorem oInB_ok {R : List Nat} : ∀ {O : List (Nat × Kind)}, oInB R O = true → OIn R O
  | [], _ => trivial
  | (i, K) :: r, h => by
    simp only [oInB, List.all_cons, Bool.and_eq_true] at h
    refine ⟨?_, oInB_ok h.2⟩
    cases K <;> simp only [KIn] <;> simp_all
/-- The same, where no row is written into. -/
theorem xE (R : List Nat) (v : AV) (n1 : Nat) (H1 : List (Nat × Nat × AV)) (O1 : List (Nat × Kind)) (hd : dOk N dst = true) (hg : wantedS ops σ gd = some true)
    (hs : aops P N n ops [⟨dst, op, ty, pos, af, none⟩] (fun e s' => e = .normal ∧ s' = ⟨updS dst v (restr ⟨dst, op, ty, pos, af, gd⟩ σ), H1, O1, n1⟩) ⟨restr ⟨dst, op, ty, pos, af, gd⟩ σ, rH R H, rO R O, n⟩)
    (hc : (chkE R n n1 H1 O1 && sInB R (restr ⟨dst, op, ty, pos, af, gd⟩ σ) && hInB R (rH R H) && oInB R (rO R O)) = true)
    (eH : nfHH (newH (R ++ List.range' n (n1 - n)) H1 H) some = some H2) (eO : nfOO (newO (R ++ List.range' n (n1 - n)) O1 O) some = some O2)
    (k : DX P N n0 ops rest (updS dst v σ) H2 O2 n1 (fun xs => C (⟨R, R ++ List.range' n (n1 - n), H, O, n⟩ :: xs)) K) : DX P N n0 ops (⟨dst, op, ty, pos, af, gd⟩ :: rest) σ H O n C K := by
  simp only [Bool.and_eq_true] at hc
  exact xe R v n1 H1 O1 hd hg hs hc.1.1.1 (sInB_ok hc.1.1.2) (hInB_ok hc.1.2) (oInB_ok hc.2) eH eO k
end
end Go.Pv

/- Plain functions that may fail: loops, and what holds for all great numbers of rounds; data of arguments, told by plain types. -/
namespace Go.Pv
set_option linter.unusedSectionVars false
set_option linter.unusedVariables false
set_option linter.unusedSimpArgs false

/-- It holds for all great numbers. -/
def Ev (p : Nat → Prop) : Prop := ∃ F, ∀ n, F ≤ n → p n
theorem Ev.of {p : Nat → Prop} (h : ∀ n, p n) : Ev p := ⟨0, fun n _ => h n⟩
theorem Ev.ge {p : Nat → Prop} (F : Nat) (h : ∀ n, F ≤ n → p n) : Ev p := ⟨F, h⟩
theorem Ev.and {p q : Nat → Prop} (h : Ev p) (k : Ev q) : Ev fun n => p n ∧ q n := by
  obtain ⟨F, h⟩ := h; obtain ⟨G, k⟩ := k
  exact ⟨max F G, fun n hn => ⟨h n (by omega), k n (by omega)⟩⟩
theorem Ev.mono {p q : Nat → Prop} (h : Ev p) (k : ∀ n, p n → q n) : Ev q := by
  obtain ⟨F, h⟩ := h; exact ⟨F, fun n hn => k n (h n hn)⟩
theorem Ev.mono2 {p q r : Nat → Prop} (h : Ev p) (h2 : Ev q) (k : ∀ n, p n → q n → r n) : Ev r := (h.and h2).mono fun n h => k n h.1 h.2
theorem Ev.big {p : Nat → Prop} (F : Nat) (h : Ev p) : Ev fun n => F ≤ n ∧ p n := by
  obtain ⟨G, h⟩ := h; exact ⟨max F G, fun n hn => ⟨by omega, h n (by omega)⟩⟩
theorem Ev.all {α : Type} {p : α → Nat → Prop} : ∀ {l : List α}, (∀ x ∈ l, Ev (p x)) → Ev fun n => ∀ x ∈ l, p x n
  | [], _ => ⟨0, fun _ _ _ h => by cases h⟩
  | x :: l, h => ((h x (by simp)).and (Ev.all (l := l) fun y hy => h y (by simp [hy]))).mono fun n hh y hy => by
      rcases List.mem_cons.1 hy with rfl | hy
      · exact hh.1
      · exact hh.2 y hy
/-- Of the next number. -/
theorem Ev.succ {p : Nat → Prop} (h : Ev fun n => p (n + 1)) : Ev p := by
  obtain ⟨F, h⟩ := h
  refine ⟨F + 1, fun n hn => ?_⟩
  obtain ⟨m, rfl⟩ : ∃ m, n = m + 1 := ⟨n - 1, by omega⟩
  exact h m (by omega)
theorem Ev.get {p : Nat → Prop} (h : Ev p) : ∃ n, p n := by obtain ⟨F, h⟩ := h; exact ⟨F, h F (Nat.le_refl _)⟩

section
variable {α β ε τ : Type}
theorem loopD_traj {body : ε → Option (ε ⊕ τ)} (st : Nat → ε) : ∀ (m : Nat) {e : τ}, (∀ k, k < m → body (st k) = some (.inl (st (k + 1)))) → body (st m) = some (.inr e) → ∀ n, m < n → loopD body n (st 0) = some e
  | 0, e, _, h2, n, hn => by
    obtain ⟨n, rfl⟩ : ∃ k, n = k + 1 := ⟨n - 1, by omega⟩
    simp [loopD, h2]
  | m + 1, e, h1, h2, n, hn => by
    obtain ⟨n, rfl⟩ : ∃ k, n = k + 1 := ⟨n - 1, by omega⟩
    have := loopD_traj (fun k => st (k + 1)) m (e := e) (fun k hk => h1 (k + 1) (by omega)) h2 n (by omega)
    simp only [loopD, h1 0 (by omega), Option.bind_some]
    exact this
theorem loopD_go {body : ε → Option (ε ⊕ τ)} {s s' : ε} {n : Nat} (h : body s = some (.inl s')) : loopD body (n + 1) s = loopD body n s' := by simp [loopD, h]
theorem loopD_end {body : ε → Option (ε ⊕ τ)} {s : ε} {e : τ} {n : Nat} (h : body s = some (.inr e)) : loopD body (n + 1) s = some e := by simp [loopD, h]
theorem gi_nat (l : List α) (i : Nat) : gi l (i : Int) = l[i]? := by simp [gi]
theorem gi_lt {l : List α} {i : Nat} (h : i < l.length) : gi l (i : Int) = some l[i] := by rw [gi_nat, List.getElem?_eq_getElem h]
theorem W_nat {i : Nat} (h : i < 9223372036854775808) : W (i : Int) = i := wrap_i64 h
theorem W_suc {i : Nat} (h : i + 1 < 9223372036854775808) : W ((i : Int) + 1) = ((i + 1 : Nat) : Int) := by
  rw [← W_nat h]; rfl
theorem lt_max {i : Nat} (h : i ≤ maxLen) : i < 9223372036854775808 := by unfold maxLen at h; omega
theorem gsl_nat (l : List α) {i j : Nat} (h : i ≤ j) (hj : j ≤ l.length) : gsl l (i : Int) (j : Int) = some ((l.take j).drop i) := by
  unfold gsl; rw [if_pos ⟨by omega, by omega, by omega⟩]; simp
theorem gsl_from (l : List α) {i : Nat} (h : i ≤ l.length) : gsl l (i : Int) (l.length : Int) = some (l.drop i) := by
  rw [gsl_nat l h (Nat.le_refl _), List.take_length]
theorem ap_ok {a b : List α} (h : a.length + b.length ≤ capN) : ap a b = some (a ++ b) := by unfold ap; rw [if_pos h]
theorem ap_is {b r : List α} (h : ap [] b = some r) : b = r := by
  unfold ap at h; split at h
  · simpa using Option.some.inj h
  · cases h
theorem cat_ok {a b : Str} (h : a.length + b.length ≤ maxLen) : cat a b = some (a ++ b) := by unfold cat; rw [if_pos h]

/-- A number as a byte. -/
def u8 (n : Int) : UInt8 := UInt8.ofNat n.toNat
theorem u8_is {n : Int} (h : 0 ≤ n) (h2 : n < 256) : (((u8 n).toNat : Nat) : Int) = n := by
  unfold u8; rw [UInt8.toNat_ofNat_of_lt' (by show _ < 256; omega)]; omega
theorem wrap_u8 (x : Int) : IntKind.wrap .u8 x = x % 256 := rfl
theorem u8_wrap (x : Int) : (((u8 (IntKind.wrap .u8 x)).toNat : Nat) : Int) = IntKind.wrap .u8 x := by
  rw [wrap_u8]; exact u8_is (Int.emod_nonneg _ (by decide)) (Int.emod_lt_of_pos _ (by decide))
theorem u8_bits (op : BinOp) (a b : Int) : (((u8 (bits op .u8 a b)).toNat : Nat) : Int) = bits op .u8 a b := by
  exact u8_wrap _
/-- The place of the first element that it holds of, as Go tells it. -/
def ixI (p : α → Bool) (l : List α) : Int := match l.findIdx? p with
  | some i => i
  | none => -1
theorem ixI_ge (p : α → Bool) (l : List α) : decide (ixI p l ≥ 0) = l.any p := by
  unfold ixI
  cases h : l.findIdx? p with
  | some i =>
    have : l.any p = true := by
      rw [List.any_eq_true]
      have h2 := List.findIdx?_eq_some_iff_getElem.1 h
      obtain ⟨h3, h4, _⟩ := h2
      exact ⟨_, List.getElem_mem h3, h4⟩
    rw [this]; simp
  | none =>
    rw [List.findIdx?_eq_none_iff] at h
    have : l.any p = false := by rw [List.any_eq_false]; intro x hx; simpa using h x hx
    rw [this]; rfl
/-- A loop that ends, and what then holds. -/
theorem loopD_tot {body : ε → Option (ε ⊕ τ)} (I : ε → Prop) (μ : ε → Nat) (J : τ → Prop) (h : ∀ s, I s → ∃ o, body s = some o ∧ (∀ s', o = .inl s' → I s' ∧ μ s' < μ s) ∧ ∀ e, o = .inr e → J e) : ∀ (n : Nat) (s : ε), I s → μ s < n → ∃ e, loopD body n s = some e ∧ J e
  | 0, _, _, hn => by omega
  | n + 1, s, hI, hn => by
    obtain ⟨o, ho, h1, h2⟩ := h s hI
    cases o with
    | inl s' =>
      obtain ⟨k1, k2⟩ := h1 s' rfl
      rw [loopD_go ho]; exact loopD_tot I μ J h n s' k1 (by omega)
    | inr e => exact ⟨e, loopD_end ho, h2 e rfl⟩
theorem loopD_ex {β : Type} {body : ε → Option (ε ⊕ τ)} {f : τ → Option β} {n : Nat} {s : ε} (I : ε → Prop) (μ : ε → Nat) (J : τ → Prop) (hs : I s) (hn : μ s < n)
    (h : ∀ s, I s → ∃ o, body s = some o ∧ (∀ s', o = .inl s' → I s' ∧ μ s' < μ s) ∧ ∀ e, o = .inr e → J e) (k : ∀ e, J e → ∃ r, f e = some r) : ∃ r, (loopD body n s).bind f = some r := by
  obtain ⟨e, he, hJ⟩ := loopD_tot I μ J h n s hs hn
  rw [he]; exact k e hJ
theorem bind_ex {β γ : Type} {o : Option β} {f : β → Option γ} (h : ∃ v, o = some v) (k : ∀ v, o = some v → ∃ r, f v = some r) : ∃ r, o.bind f = some r := by
  obtain ⟨v, hv⟩ := h; rw [hv]; exact k v hv
theorem Ev.ex {β : Type} {p : Nat → Option β} {v : β} (h : Ev fun n => p n = some v) : Ev fun n => ∃ v, p n = some v := h.mono fun n h => ⟨v, h⟩
/-- A loop that looks for the first element, and ends with something of its own. -/
theorem ix_loopG {l : List α} {σ : Type} (st : Nat → σ) {p : α → Bool} {r : Nat → ε} {q : τ} {body : σ → Option (σ ⊕ (τ ⊕ ε))} (hb : ∀ i (h : i < l.length), body (st i) = some (if p l[i] then .inr (.inr (r i)) else .inl (st (i + 1))))
    (he : body (st l.length) = some (.inr (.inl q))) {n : Nat} (hn : l.length < n) : loopD body n (st 0) = some (match l.findIdx? p with | some i => .inr (r i) | none => .inl q) := by
  cases h : l.findIdx? p with
  | some i =>
    obtain ⟨h3, h4, h5⟩ := List.findIdx?_eq_some_iff_getElem.1 h
    refine loopD_traj st i (fun k hk => ?_) ?_ n (by omega)
    · rw [hb k (by omega), if_neg (by simpa using h5 k hk)]
    · rw [hb i h3, if_pos h4]
  | none =>
    rw [List.findIdx?_eq_none_iff] at h
    refine loopD_traj st l.length (fun k hk => ?_) he n hn
    rw [hb k hk, if_neg (by simpa using h _ (List.getElem_mem hk))]
theorem any_ix {p : α → Bool} {l : List α} : l.any p = (l.findIdx? p).isSome := by
  rw [Bool.eq_iff_iff]
  constructor
  · intro h
    cases hf : l.findIdx? p with
    | some i => rfl
    | none =>
      rw [List.findIdx?_eq_none_iff] at hf
      obtain ⟨x, hx, hx2⟩ := List.any_eq_true.1 h
      have := hf x hx; simp [hx2] at this
  · intro h
    obtain ⟨i, hi⟩ := Option.isSome_iff_exists.1 h
    obtain ⟨h3, h4, _⟩ := List.findIdx?_eq_some_iff_getElem.1 hi
    exact List.any_eq_true.2 ⟨_, List.getElem_mem h3, h4⟩
/-- A loop that looks for the first element. -/
theorem ix_loop {l : List α} {p : α → Bool} {body : Int → Option (Int ⊕ (Unit ⊕ Int))} (hb : ∀ i (h : i < l.length), body (i : Int) = some (if p l[i] then .inr (.inr (i : Int)) else .inl (W ((i : Int) + 1))))
    (he : body (l.length : Int) = some (.inr (.inl ()))) (hl : l.length ≤ maxLen) {n : Nat} (hn : l.length < n) : loopD body n 0 = some (match l.findIdx? p with | some i => .inr (i : Int) | none => .inl ()) := by
  have hW : ∀ k, k < l.length → W ((k : Int) + 1) = ((k + 1 : Nat) : Int) := fun k hk => W_suc (by have := lt_max hl; omega)
  cases h : l.findIdx? p with
  | some i =>
    obtain ⟨h3, h4, h5⟩ := List.findIdx?_eq_some_iff_getElem.1 h
    refine loopD_traj (fun k => (k : Int)) i (fun k hk => ?_) ?_ n (by omega)
    · rw [hb k (by omega), if_neg (by simpa using h5 k hk), hW k (by omega)]
    · rw [hb i h3, if_pos h4]
  | none =>
    rw [List.findIdx?_eq_none_iff] at h
    refine loopD_traj (fun k => (k : Int)) l.length (fun k hk => ?_) he n hn
    rw [hb k hk, if_neg (by simpa using h _ (List.getElem_mem hk)), hW k hk]
end

/-! ### data -/

def okS (s : Str) : Prop := s.length ≤ maxLen
def okI (k : IntKind) (n : Int) : Prop := (Lit.int k n).wf = true
def okLs {α : Type} (p : α → Prop) (l : List α) : Prop := l.length ≤ maxLen ∧ ∀ x ∈ l, p x
theorem rows_rec {α : Type} {c : α → List AV} {cs : List α → List (List AV)} (h0 : cs [] = []) (h1 : ∀ x l, cs (x :: l) = c x :: cs l) {Q : α → Prop} {Qs : List α → Prop} (q0 : Qs []) (q1 : ∀ x l, Q x → Qs l → Qs (x :: l)) :
    ∀ xs : List (List AV), (∀ r ∈ xs, ∃ a, r = c a ∧ Q a) → ∃ l, xs = cs l ∧ l.length = xs.length ∧ Qs l
  | [], _ => ⟨[], h0.symm, rfl, q0⟩
  | x :: xs, h => by
    obtain ⟨a, rfl, ha⟩ := h x (by simp)
    obtain ⟨l, rfl, h2, h3⟩ := rows_rec h0 h1 q0 q1 xs fun r hr => h r (by simp [hr])
    exact ⟨a :: l, (h1 a l).symm, by simp [h2], q1 a l ha h3⟩
section
variable {P : Program} [Tab P]
theorem dat_Str {n : Nat} {t : TypeId} {i : TI} {cs : List AV} (hi : ti P t = some i) (hk : i.k = .str) (h : Dat P n t cs) : ∃ s : Str, cs = [.str (sB s)] ∧ okS s := by
  obtain ⟨s, rfl, h2⟩ := dat_str hi hk h
  exact ⟨s.data.toList, rfl, h2⟩
theorem dat_Bytes {n : Nat} {t e : TypeId} {i j : TI} {cs : List AV} (hi : ti P t = some i) (hk : i.k = .slice e) (he : ti P e = some j) (hj : j.k = .int .u8) (h : Dat P n t cs) : ∃ l : Str, cs = [.sl (l.map cU8)] ∧ okS l :=
  dat_bytes hi hk he hj h
theorem dat_Int {n : Nat} {t : TypeId} {i : TI} {k : IntKind} {cs : List AV} (hi : ti P t = some i) (hk : i.k = .int k) (h : Dat P n t cs) : ∃ z, cs = [.int k z] ∧ okI k z := dat_int hi hk h
theorem dat_Bool {n : Nat} {t : TypeId} {i : TI} {cs : List AV} (hi : ti P t = some i) (hk : i.k = .bool) (h : Dat P n t cs) : ∃ b, cs = [.bool b] ∧ True := by
  obtain ⟨b, h⟩ := dat_bool hi hk h; exact ⟨b, h, trivial⟩
theorem dat_List {α : Type} {c : α → List AV} {Q : α → Prop} {n : Nat} {t e : TypeId} {i : TI} {cs : List AV} (hi : ti P t = some i) (hk : i.k = .slice e) (hd : ∀ n r, Dat P n e r → ∃ a, r = c a ∧ Q a) (h : Dat P n t cs) :
    ∃ l : List α, cs = [.sl (l.map c)] ∧ okLs Q l := by
  obtain ⟨xs, rfl, h1, h2⟩ := dat_sl hi hk h
  obtain ⟨l, rfl, h3⟩ := dat_list hd xs h2
  exact ⟨l, rfl, by simpa using h1, h3⟩
theorem dat_slice {n : Nat} {t e : TypeId} {i : TI} {cs : List AV} (hi : ti P t = some i) (hk : i.k = .slice e) (h : Dat P (n + 1) t cs) : ∃ xs, cs = [.sl xs] ∧ xs.length ≤ maxLen ∧ ∀ r ∈ xs, Dat P n e r := by
  simp only [Dat, hi, hk] at h
  obtain ⟨xs, h1, h2, h3⟩ := h
  exact ⟨xs, h1, h2, fun r hr => (h3 r hr).2⟩
theorem dat_struct {n : Nat} {t : TypeId} {i : TI} {q : Bool} {fs : List (Nat × TypeId)} {cs : List AV} (hi : ti P t = some i) (hk : i.k = .struct q fs) (h : Dat P n t cs) : ∃ m, n = m + 1 ∧ DatF P (Dat P m) fs cs := by
  cases n with
  | zero => cases h
  | succ m => simp only [Dat, hi, hk] at h; exact ⟨m, rfl, h⟩
theorem datV_s {t : TypeId} {i : TI} {q : Bool} {fs : List (Nat × TypeId)} {x : AV} (hi : ti P t = some i) (hk : i.k = .struct q fs) (h : DatV P t x) : ∃ n cs, x = .agg cs ∧ Dat P n t cs := by
  obtain ⟨n, h⟩ := h; simp only [hi, hk] at h; exact ⟨n, h⟩
theorem datV_o {t : TypeId} {i : TI} {x : AV} (hi : ti P t = some i) (hk : ∀ q fs, i.k ≠ .struct q fs) (h : DatV P t x) : ∃ n, Dat P n t [x] := by
  obtain ⟨n, h⟩ := h; simp only [hi] at h
  exact ⟨n, h⟩
end
end Go.Pv

/- What the arguments hold together: the second form of a statement ('..Upto'). -/
namespace Go.Pv
open Go.RowKit (Below)
open Go.ChangeShapes Go.WideShapes
set_option linter.unusedSimpArgs false
set_option linter.unusedSectionVars false
set_option linter.unusedVariables false

mutual
/-- How many values and letters a value holds, at least. -/
def AV.bk : AV → Nat
  | .str s => s.size + 1
  | .sl xs => bkLL xs + 1
  | .agg cs => bkL cs
  | _ => 1
def bkL : List AV → Nat
  | [] => 0
  | x :: r => x.bk + bkL r
def bkLL : List (List AV) → Nat
  | [] => 0
  | x :: r => bkL x + bkLL r
end
theorem bkL_append : ∀ {a b : List AV}, bkL (a ++ b) = bkL a + bkL b
  | [], _ => by simp [bkL]
  | x :: a, b => by simp only [List.cons_append, bkL, bkL_append (a := a)]; omega

structure Bulk {H : Type} (u : DataW H → Nat) (ua : List (DataW H) → Nat) : Prop where
  bool : ∀ b, 1 ≤ u (.lit (.bool b))
  int : ∀ k n, 1 ≤ u (.lit (.int k n))
  str : ∀ l, l.length + 1 ≤ u (.lit (.string l))
  nil : 1 ≤ u .nil
  slice : ∀ e s, ua e + 1 ≤ u (.slice e s)
  agg : ∀ ps, ua ps ≤ u (.agg ps)
  cons : ∀ d r, u d + ua r ≤ ua (d :: r)

section
variable {H : Type} {enc : TypeId × Value → H} {P : Program} [Tab P] {w : World} {base : Nat} {spare : Nat → Bool} {held : Bool} {u : DataW H → Nat} {ua : List (DataW H) → Nat}

theorem read_fieldsB (hU : Bulk u ua) {S : List TypeId} {n : Nat} {vs : List Value}
    (ih : ∀ t us x, t ∈ S → DataW.trod enc P w base spare held n t us = some x → ∃ cs, RepL w (G.ofTop (fullTop w)) cs us ∧ Dat P n t cs ∧ bkL cs ≤ u x.1) :
    ∀ (fs : List (Nat × TypeId)) (ys : List (DataW H × List MemPlace)) (off : Nat), contig P off fs vs.length = true → (∀ p ∈ fs, p.2 ∈ S) → ys.length = fs.length →
      (∀ (i : Nat) (p : Nat × TypeId), fs[i]? = some p → DataW.trod enc P w base spare held n p.2 ((vs.drop p.1).take (P.cellsOf p.2)) = ys[i]?) →
      ∃ cs, RepL w (G.ofTop (fullTop w)) cs (vs.drop off) ∧ DatF P (Dat P n) fs cs ∧ bkL cs ≤ ua (ys.map (·.1))
  | [], ys, off, hc, _, _, _ => by
    simp only [contig, Nat.beq_eq] at hc
    subst hc
    exact ⟨[], by simp [RepL], rfl, Nat.zero_le _⟩
  | (o, t) :: r, [], off, hc, hS, hy, hx => by simp at hy
  | (o, t) :: r, y :: ys, off, hc, hS, hy, hx => by
    simp only [contig, Bool.and_eq_true, Nat.beq_eq] at hc
    obtain ⟨rfl, hc⟩ := hc
    cases hj : ti P t with
    | none => simp [hj] at hc
    | some j =>
      simp only [hj] at hc
      obtain ⟨_, _, _, ht⟩ := ti_tells hj
      have hx0 := hx 0 (o, t) rfl
      obtain ⟨a, ha, hda, hka⟩ := ih t _ y (hS (o, t) (by simp)) hx0
      obtain ⟨b, hb, hdb, hkb⟩ := read_fieldsB hU ih r ys (o + j.size) hc (fun p hp => hS p (by simp [hp])) (by simpa using hy) (fun i p hp => hx (i + 1) p hp)
      have hcell : P.cellsOf t = j.size := cellsOf_eq ht
      simp only [hcell] at ha
      refine ⟨a ++ b, ?_, ⟨a, b, rfl, fun j' hj' => ?_, hda, hdb⟩, ?_⟩
      rotate_left 2
      · rw [bkL_append]; exact Nat.le_trans (Nat.add_le_add hka hkb) (hU.cons _ _)
      · have : vs.drop o = (vs.drop o).take j.size ++ vs.drop (o + j.size) := by
          rw [← List.drop_drop]; exact (List.take_append_drop _ _).symm
        rw [this]
        exact RepL.append ha hb
      · rw [hj] at hj'
        obtain rfl := Option.some.inj hj'
        have h1 := ha.length
        have h2 : o + j.size ≤ vs.length := by
          have : ∀ (fs : List (Nat × TypeId)) (k : Nat), contig P k fs vs.length = true → k ≤ vs.length := by
            intro fs
            induction fs with
            | nil => intro k h; simp only [contig, Nat.beq_eq] at h; omega
            | cons q fs ihf =>
              intro k h
              obtain ⟨o', t'⟩ := q
              simp only [contig, Bool.and_eq_true, Nat.beq_eq] at h
              cases hq : ti P t' with
              | none => simp [hq] at h
              | some jj =>
                simp only [hq] at h
                have := ihf _ h.2
                omega
          exact this r _ hc
        rw [← h1]
        simp
        omega

theorem read_datB (hU : Bulk u ua) {S : List TypeId} (hS : supS P S = true) : ∀ (n : Nat) (t : TypeId) (vs : List Value) (x : DataW H × List MemPlace), t ∈ S → DataW.trod enc P w base spare held n t vs = some x →
    ∃ cs, RepL w (G.ofTop (fullTop w)) cs vs ∧ Dat P n t cs ∧ bkL cs ≤ u x.1
  | 0, _, _, _, _, h => by simp [DataW.trod] at h
  | n + 1, t, vs, x, ht, h => by
    have hS' := hS
    unfold supS at hS'
    rw [List.all_eq_true] at hS'
    have hk := hS' t ht
    cases hi : ti P t with
    | none => simp [hi] at hk
    | some i =>
      simp only [hi] at hk
      obtain ⟨inf, d, z, hT⟩ := ti_tells hi
      cases hkk : i.k <;> simp only [hkk] at hk <;> first | (cases hk; done) | skip
      case bool =>
        obtain ⟨b, rfl, rfl⟩ := DataW.trod_bool (by rw [hT.und, hT.desc_bool hkk]) h
        exact ⟨[.bool b], RepL.one rfl, by simp only [Dat, hi, hkk]; exact ⟨b, rfl⟩, hU.bool b⟩
      case int k =>
        obtain ⟨m, rfl, rfl, hw⟩ := DataW.trod_int (by rw [hT.und, hT.desc_int hkk]) h
        exact ⟨[.int k m], RepL.one rfl, by simp only [Dat, hi, hkk]; exact ⟨m, rfl, hw⟩, hU.int k m⟩
      case str =>
        obtain ⟨s, rfl, rfl, hw⟩ := DataW.trod_string (by rw [hT.und, hT.desc_str hkk]) h
        exact ⟨[.str s], RepL.one rfl, by simp only [Dat, hi, hkk]; exact ⟨s, rfl, hw⟩, hU.str _⟩
      case struct q fs =>
        simp only [Bool.and_eq_true, List.all_eq_true] at hk
        obtain ⟨fl, hd, hfs, _⟩ := hT.desc_struct hkk
        obtain ⟨xs, m, hm, rfl, hlen, hxl, hget⟩ := DataW.trod_struct (by rw [hT.und, hd]) h
        obtain rfl : m = n := by omega
        rw [cellsOf_eq hT] at hlen
        obtain ⟨cs, h1, h2, h3⟩ := read_fieldsB hU (vs := vs) (S := S) (fun t us x ht h => read_datB hU hS m t us x ht h) fs xs 0 (by rw [hlen]; exact hk.1)
          (fun p hp => by have := hk.2 p hp; rw [List.contains_eq_mem] at this; simpa using this) (by rw [hfs]; simp [hxl])
          (fun i p hp => by
            rw [hfs, List.getElem?_map] at hp
            cases hf : fl.toList[i]? with
            | none => simp [hf] at hp
            | some f =>
              simp only [hf, Option.map_some, Option.some.injEq] at hp
              subst hp
              exact hget i f (by simpa using hf))
        exact ⟨cs, by simpa using h1, by simp only [Dat, hi, hkk]; exact h2, Nat.le_trans h3 (hU.agg _)⟩
      case slice e =>
        simp only [Bool.and_eq_true] at hk
        have hes : e ∈ S := by have := hk.1; rw [List.contains_eq_mem] at this; simpa using this
        cases hj : ti P e with
        | none => simp [hj] at hk
        | some j =>
          simp only [hj, Bool.not_eq_true'] at hk
          obtain ⟨_, _, _, hE⟩ := ti_tells hj
          have hsz : P.cellsOf e = j.size := cellsOf_eq hE
          have hpos : 0 < j.size := by
            have h2 := hk.2
            rw [Bool.eq_false_iff, ne_eq, Nat.beq_eq] at h2
            omega
          rcases DataW.trod_slice (by rw [hT.und, hT.desc_slice hkk]) h with ⟨rfl, rfl⟩ | ⟨a, len, cap, elems, rest, m, hm, rfl, rfl, _, hlc, hcm, hel, hget, _⟩
          · exact ⟨[.sl []], RepL.one ⟨none, 0, rfl, Nat.le_refl _, fun _ => rfl, fun _ h => by cases h⟩, by simp only [Dat, hi, hkk]; exact ⟨[], rfl, Nat.zero_le _, by simp⟩, hU.nil⟩
          · obtain rfl : m = n := by omega
            have hrow : ∀ k (hk : k < elems.length), ∃ cs vs, RepL w (G.ofTop (fullTop w)) cs vs ∧ Dat P m e cs ∧ bkL cs ≤ u elems[k].1 ∧ cs.length = j.size ∧ vs.length = j.size ∧ ∀ q v, vs[q]? = some v → w.cell? ((a.add (k * j.size)).add q) = some v := by
              intro k hlt
              have hg := hget k (by omega)
              rw [List.getElem?_eq_getElem hlt, hsz] at hg
              cases hc : w.cells? base (a.add (k * j.size)) j.size with
              | none => rw [hc] at hg; simp at hg
              | some us =>
                rw [hc] at hg
                simp only [Option.bind_some] at hg
                obtain ⟨cs, h1, h2, hb2⟩ := read_datB hU hS m e us _ hes hg
                obtain ⟨h3, h4⟩ := cells_get hc
                exact ⟨cs, us, h1, h2, hb2, by rw [← h1.length, h3], h3, h4⟩
            have hspot : 0 < len → a.spot = none := by
              intro h0
              obtain ⟨cs, us, h1, _, _, _, h4, h5⟩ := hrow 0 (by omega)
              have := h5 0 us[0] (List.getElem?_eq_getElem (by omega))
              simp only [Nat.zero_mul] at this
              have h6 := (fullTop_cell this).2
              simpa [Addr.add] using h6
            have hrows : ∀ k, k ≤ len → ∃ xs : List (List AV), xs.length = len - k ∧ (∀ r ∈ xs, r.length = j.size ∧ Dat P m e r) ∧ bkLL xs ≤ ua ((elems.drop k).map (·.1)) ∧ (0 < len → RepRows w (fullTop w) a.block (a.off + k * j.size) xs) := by
              intro k hk'
              induction hd : len - k generalizing k with
              | zero => exact ⟨[], rfl, by simp, Nat.zero_le _, fun _ => trivial⟩
              | succ dd ihd =>
                obtain ⟨xs, h1, h2, hbx, h3⟩ := ihd (k + 1) (by omega) (by omega)
                obtain ⟨cs, us, g1, g2, gb, g3, g4, g5⟩ := hrow k (by omega)
                refine ⟨cs :: xs, by simp [h1], ?_, ?_, fun h0 => ⟨?_, ?_⟩⟩
                rotate_left
                · rw [List.drop_eq_getElem_cons (by omega)]; simp only [bkLL, List.map_cons]; exact Nat.le_trans (Nat.add_le_add gb hbx) (hU.cons _ _)
                rotate_left 2
                · intro r hr
                  rcases List.mem_cons.1 hr with rfl | hr
                  · exact ⟨g3, g2⟩
                  · exact h2 r hr
                · refine repAt_of g1 fun q v hq => ?_
                  have := g5 q v hq
                  have hs := hspot h0
                  obtain ⟨ab, ao, sp⟩ := a
                  simp only at hs
                  subst hs
                  rw [addr_add, addr_add] at this
                  exact ⟨this, (fullTop_cell this).1⟩
                · have := h3 h0
                  rw [g3]
                  rwa [Nat.add_mul, Nat.one_mul, ← Nat.add_assoc] at this
            obtain ⟨xs, h1, h2, hbx, h3⟩ := hrows 0 (Nat.zero_le _)
            simp only [Nat.sub_zero, Nat.zero_mul, Nat.add_zero] at h1 h3
            refine ⟨[.sl xs], RepL.one ⟨some a, cap, by rw [h1], by rw [h1]; exact hlc, (fun e => by cases e), fun ad had => ?_⟩, ?_, ?_⟩
            rotate_left 2
            · simp only [bkL, AV.bk, Nat.add_zero]; exact Nat.le_trans (Nat.succ_le_succ hbx) (hU.slice _ _)
            · obtain rfl := Option.some.inj had
              refine ⟨fun hne => hspot ?_, ?_⟩
              · rw [← h1]; exact List.length_pos_iff.2 hne
              · by_cases h0 : 0 < len
                · exact h3 h0
                · have : xs = [] := List.eq_nil_of_length_eq_zero (by omega)
                  subst this; trivial
            · simp only [Dat, hi, hkk]
              exact ⟨xs, rfl, by omega, fun r hr => ⟨fun j' hj' => by rw [hj] at hj'; obtain rfl := Option.some.inj hj'; exact (h2 r hr).1, (h2 r hr).2⟩⟩


theorem read_argB (hU : Bulk u ua) {S : List TypeId} {base' : Nat} (hS : supS P S = true) {t : TypeId} {v : Value} {d : DataW H} {ps : List MemPlace} (ht : t ∈ S) (h : DataW.Trod enc P w base spare held t v d ps) (hv : Value.okWide P w .any base' t v) :
    ∃ x, Rep w (G.ofTop (fullTop w)) x v ∧ DatV P t x ∧ x.bk ≤ u d := by
  obtain ⟨n, hn⟩ := h
  obtain ⟨cs, hr, hd, hB⟩ := read_datB hU hS n t _ _ ht hn
  have hS' := hS
  unfold supS at hS'
  rw [List.all_eq_true] at hS'
  have hk := hS' t ht
  cases hi : ti P t with
  | none => simp [hi] at hk
  | some i =>
    simp only [hi] at hk
    obtain ⟨inf, dd, z, hT⟩ := ti_tells hi
    have one : ∀ {x : AV}, cs = [x] → v.cells = #[v] → Rep w (G.ofTop (fullTop w)) x v := by
      intro x hx hv
      subst hx
      rw [hv] at hr
      obtain ⟨u, us, e, r, _⟩ := hr
      simp at e
      rw [e.1]; exact r
    cases hkk : i.k <;> simp only [hkk] at hk <;> first | (cases hk; done) | skip
    case bool =>
      obtain ⟨b, rfl⟩ := okWide_bool (by rw [hT.und, hT.desc_bool hkk]) hv
      cases n with
      | zero => exact hd.elim
      | succ n =>
        have hd' := hd
        simp only [Dat, hi, hkk] at hd'
        obtain ⟨c, rfl⟩ := hd'
        exact ⟨_, one rfl rfl, ⟨n + 1, by simp only [hi, hkk]; exact hd⟩, by simpa [bkL] using hB⟩
    case int k =>
      obtain ⟨b, rfl⟩ := okWide_int (by rw [hT.und, hT.desc_int hkk]) hv
      cases n with
      | zero => exact hd.elim
      | succ n =>
        have hd' := hd
        simp only [Dat, hi, hkk] at hd'
        obtain ⟨c, rfl, _⟩ := hd'
        exact ⟨_, one rfl rfl, ⟨n + 1, by simp only [hi, hkk]; exact hd⟩, by simpa [bkL] using hB⟩
    case str =>
      obtain ⟨b, rfl⟩ := okWide_string (by rw [hT.und, hT.desc_str hkk]) hv
      cases n with
      | zero => exact hd.elim
      | succ n =>
        have hd' := hd
        simp only [Dat, hi, hkk] at hd'
        obtain ⟨c, rfl, _⟩ := hd'
        exact ⟨_, one rfl rfl, ⟨n + 1, by simp only [hi, hkk]; exact hd⟩, by simpa [bkL] using hB⟩
    case slice e =>
      obtain ⟨a, l, c, rfl⟩ := okWide_slice (by rw [hT.und, hT.desc_slice hkk]) hv
      cases n with
      | zero => exact hd.elim
      | succ n =>
        have hd' := hd
        simp only [Dat, hi, hkk] at hd'
        obtain ⟨c, rfl, _⟩ := hd'
        exact ⟨_, one rfl rfl, ⟨n + 1, by simp only [hi, hkk]; exact hd⟩, by simpa [bkL] using hB⟩
    case struct q fs =>
      obtain ⟨fl, hds, _, _⟩ := hT.desc_struct hkk
      obtain ⟨us, rfl, _⟩ := okWide_struct (by rw [hT.und, hds]) hv
      exact ⟨.agg cs, ⟨us.toList, by simp, hr⟩, ⟨n, by simp only [hi, hkk]; exact ⟨cs, rfl, hd⟩⟩, by simpa [AV.bk] using hB⟩

theorem read_argsB (hU : Bulk u ua) {S : List TypeId} {base' : Nat} (hS : supS P S = true) : ∀ {ts : List TypeId} {vs : List Value} {ds : List (DataW H)} {ps : List MemPlace}, (∀ t ∈ ts, t ∈ S) → DataW.TrodAll enc P w base spare held ts vs ds ps →
    (∀ (j : Nat) t v, ts[j]? = some t → vs[j]? = some v → Value.okWide P w .any base' t v) → ∃ xs, RepL w (G.ofTop (fullTop w)) xs vs ∧ DatVs P ts xs ∧ bkL xs ≤ ua ds
  | [], [], [], _, _, _, _ => ⟨[], rfl, trivial, Nat.zero_le _⟩
  | t :: ts, v :: vs, d :: ds, _, hm, ⟨p, q, h1, h2, _⟩, hv => by
    obtain ⟨x, hx, hdx, hbx⟩ := read_argB hU hS (hm t (by simp)) h1 (hv 0 t v rfl rfl)
    obtain ⟨xs, hxs, hdxs, hbxs⟩ := read_argsB hU hS (fun u hu => hm u (by simp [hu])) h2 (fun j t v h1 h2 => hv (j + 1) t v (by simpa using h1) (by simpa using h2))
    exact ⟨x :: xs, ⟨v, vs, rfl, hx, hxs⟩, ⟨hdx, hdxs⟩, by simp only [bkL]; exact Nat.le_trans (Nat.add_le_add hbx hbxs) (hU.cons _ _)⟩
  | [], [], _ :: _, _, _, h, _ | [], _ :: _, _, _, _, h, _ | _ :: _, [], _, _, _, h, _ | _ :: _, _ :: _, [], _, _, h, _ => by simp [DataW.TrodAll] at h


theorem law_callsB (hU : Bulk u ua) {k : FuncId} {f : Func} {s : ChangeSpec} {S : List TypeId} {tb : TypeId} {W : World} {base' : Nat} {args : Array Value} {ds gs : List (DataW H)} {before : List MemPlace} (hl : laidOutB P = true)
    (hr : ∀ t ∈ f.params.toList, P.readableRec t = true ∧ t < P.types.size) (hS : supS P S = true) (hp : ∀ t ∈ f.params.toList, t ∈ S) (hres : f.resultTypes = #[tb]) (htb : P.underlying tb = some .bool) (hvars : s.vars = [])
    (hfn : ∀ ds : List (DataW H), ds.length = f.params.toList.length → s.fn H ds = { results := [.lit (.bool true)], args := ds })
    (call : ∀ xs, DatVs P f.params.toList xs → bkL xs ≤ ua ds → PCall P k xs (· = .bool true))
    (hval : ∀ (j : Nat) t v, f.params[j]? = some t → args[j]? = some v → Value.okWide P W .any base' t v)
    (hW : DataW.Whole enc P f.params.toList s.vars false W args.toList ds gs before) (hlay : LaidAt W (G.ofTop (fullTop W))) :
    Calls P k args W fun e W' => ∃ v, e = .returned v ∧ s.post enc P f false true false false W args v W' := by
  have hW' := hW
  obtain ⟨p, q, hA, hV, rfl, hfz, hnd⟩ := hW
  rw [hvars] at hV
  obtain ⟨rfl, rfl⟩ := trodVars_none hV
  have hval0 : ∀ (j : Nat) t v, f.params.toList[j]? = some t → args.toList[j]? = some v → Value.okWide P W .any base' t v := fun j t v h1 h2 => hval j t v (by simpa using h1) (by simpa using h2)
  obtain ⟨n, hn⟩ : ∃ ps : List MemPlace, ps = p := ⟨_, rfl⟩
  obtain ⟨xs, hxs, hdx, hbx⟩ := read_argsB hU hS hp hA hval0
  have hc := (call xs hdx hbx).2 W (fullTop W) args.toList (fun b hb => fullTop_new W b hb) hlay hxs
  rw [Array.toArray_toList] at hc
  refine hc.mono ?_
  rintro e W' ⟨v, r, top', rfl, hreq, hr', hpf⟩
  have hreq' : r = .bool true := hreq
  subst hreq'
  obtain rfl : v = .bool true := hr'
  have hlt : ∀ x ∈ p, x.block < W.heap.size := fun x hx => hW'.lt x (by simp [hx])
  have hstay : ∀ sp : Nat → Bool, (∀ x ∈ p, sp x.block = true) → DataW.TrodAll enc P W' 0 sp true f.params.toList args.toList ds p := fun sp hsp =>
    trodAll_stays hl hr hA (fun x hx => hpf.below.same (hlt x hx)) hsp
  have hfd : s.fn H (ds ++ []) = { results := [.lit (.bool true)], args := ds } := by
    rw [List.append_nil]; exact hfn ds (trodAll_len hA)
  refine ⟨_, rfl, ds, [], p ++ [], [], p, [], hW', ?_, ?_, ?_, ?_, fun h => by cases h⟩
  · rw [hfd, hres]
    exact trodAll_mk1 ⟨1, by simp [DataW.trod, Value.cells, htb]⟩
  · rw [hfd]
    exact hstay _ fun x hx => by simpa using hlt x hx
  · rw [hfd, hvars]
    exact rfl
  · exact hpf.below.frame _

theorem law_rowB (hU : Bulk u ua) {k : FuncId} {f : Func} {s : ChangeSpec} {W : World} {base' : Nat} {args : Array Value} {ds gs : List (DataW H)} {before : List MemPlace} (S : List TypeId) (ts : List TypeId) (tb : TypeId)
    (hts : f.params.toList = ts) (hl : laidOutB P = true) (hr : readOk P S ts = true) (hS : supS P S = true) (hres : f.resultTypes = #[tb]) (htb : P.underlying tb = some .bool) (hvars : s.vars = [])
    (hfn : ∀ ds : List (DataW H), ds.length = ts.length → s.fn H ds = { results := [.lit (.bool true)], args := ds })
    (call : ∀ xs, DatVs P ts xs → bkL xs ≤ ua ds → PCall P k xs (· = .bool true))
    (hval : ∀ (j : Nat) t v, f.params[j]? = some t → args[j]? = some v → Value.okWide P W .any base' t v)
    (hW : DataW.Whole enc P f.params.toList s.vars false W args.toList ds gs before) (hlay : LaidAt W (G.ofTop (fullTop W))) :
    Calls P k args W fun e W' => ∃ v, e = .returned v ∧ s.post enc P f false true false false W args v W' := by
  unfold readOk at hr
  rw [List.all_eq_true] at hr
  refine law_callsB hU (S := S) (tb := tb) hl ?_ hS ?_ hres htb hvars ?_ ?_ hval hW hlay
  · intro t ht
    rw [hts] at ht
    have := hr t ht
    simp only [Bool.and_eq_true] at this
    exact ⟨this.1.1, by simpa using this.1.2⟩
  · intro t ht
    rw [hts] at ht
    have := hr t ht
    simp only [Bool.and_eq_true] at this
    have h2 := this.2
    rw [List.contains_eq_mem] at h2
    simpa using h2
  · rw [hts]; exact hfn
  · rw [hts]; exact call

end
end Go.Pv

/- Rows that are written into, by plain functions. -/
namespace Go.Pv
set_option linter.unusedSectionVars false
set_option linter.unusedVariables false
set_option linter.unusedSimpArgs false

section
variable {α : Type}
/-- A row with an element changed. -/
def sti (l : List α) (i : Int) (v : α) : Option (List α) := if 0 ≤ i ∧ i < l.length then some (l.set i.toNat v) else none
/-- A new row. -/
def mk (n : Int) (z : α) : Option (List α) := if 0 ≤ n ∧ n ≤ capN then some (List.replicate n.toNat z) else none

theorem stb {l y : List α} {i : Int} {v : α} (h : sti l i v = some y) : 0 ≤ i ∧ i < l.length ∧ l.set i.toNat v = y := by
  unfold sti at h; split at h
  · rename_i hc; exact ⟨hc.1, hc.2, Option.some.inj h⟩
  · cases h
theorem stG {l y : List α} {i : Int} {v : α} (h : sti l i v = some y) : ∃ o, gi l i = some o := by
  obtain ⟨h0, h1, _⟩ := stb h
  have : i.toNat < l.length := by omega
  exact ⟨l[i.toNat], by unfold gi; rw [if_pos h0, List.getElem?_eq_getElem this]⟩
theorem stM (c : α → List AV) {l y : List α} {i : Int} {v : α} (h : sti l i v = some y) : (l.map c).set i.toNat (c v) = y.map c := by
  rw [← (stb h).2.2, List.map_set]
theorem giLM (c : α → List AV) {l : List α} {i : Int} {x : α} (h : gi l i = some x) : i < ((l.map c).length : Int) := by
  rw [List.length_map]; exact giL h
theorem mkb {n : Int} {z : α} {y : List α} (h : mk n z = some y) : 0 ≤ n ∧ n ≤ capN ∧ List.replicate n.toNat z = y := by
  unfold mk at h; split at h
  · rename_i hc; exact ⟨hc.1, hc.2, Option.some.inj h⟩
  · cases h
theorem mkI (k : IntKind) {n : Int} {z : α} {y : List α} (h : mk n z = some y) : AV.int k n = .int k ((n.toNat : Nat) : Int) := by
  rw [Int.toNat_of_nonneg (mkb h).1]
theorem mkB {k : Nat} {n : Int} {z : α} {y : List α} (hk : Nat.ble k 2048 = true) (h : mk n z = some y) : k * n.toNat ≤ 140737488355328 := by
  have := (mkb h).2.1
  simp only [Nat.ble_eq] at hk
  have h2 : n.toNat ≤ capN := by omega
  exact Nat.le_trans (Nat.mul_le_mul hk h2) (by decide)
theorem mkM (c : α → List AV) {n : Int} {z : α} {y : List α} (h : mk n z = some y) : List.replicate n.toNat (c z) = y.map c := by
  rw [← (mkb h).2.2, List.map_replicate]
theorem sti_lt {l : List α} {i : Nat} (v : α) (h : i < l.length) : sti l (i : Int) v = some (l.set i v) := by
  unfold sti; rw [if_pos ⟨by omega, by omega⟩]; rfl
end
end Go.Pv

/- Parts of rows that are written into: where they lie, what is read and written there, and a part as a row of its own. -/
namespace Go.Pv
set_option linter.unusedSectionVars false
set_option linter.unusedVariables false
set_option linter.unusedSimpArgs false

section
variable {α : Type}
/-- From one place to another one of a row of n. -/
def vw (n lo hi : Int) : Option Unit := if 0 ≤ lo ∧ lo ≤ hi ∧ hi ≤ n ∧ 0 < n then some () else none
/-- A place in a part of n. -/
def gvi (n i : Int) : Option Unit := if 0 ≤ i ∧ i < n then some () else none
/-- A part made zero. -/
def clr (l : List α) (lo hi : Int) (z : α) : Option (List α) := if 0 ≤ lo ∧ lo ≤ hi ∧ hi ≤ l.length then some (l.take lo.toNat ++ List.replicate (hi - lo).toNat z ++ l.drop hi.toNat) else none
theorem vwb {n lo hi : Int} {u : Unit} (h : vw n lo hi = some u) : 0 ≤ lo ∧ lo ≤ hi ∧ hi ≤ n ∧ 0 < n := by
  unfold vw at h; split at h
  · assumption
  · cases h
theorem gvib {n i : Int} {u : Unit} (h : gvi n i = some u) : 0 ≤ i ∧ i < n := by
  unfold gvi at h; split at h
  · assumption
  · cases h
theorem clrb {l y : List α} {lo hi : Int} {z : α} (h : clr l lo hi z = some y) : 0 ≤ lo ∧ lo ≤ hi ∧ hi ≤ l.length ∧ l.take lo.toNat ++ List.replicate (hi - lo).toNat z ++ l.drop hi.toNat = y := by
  unfold clr at h; split at h
  · rename_i hc; exact ⟨hc.1, hc.2.1, hc.2.2, Option.some.inj h⟩
  · cases h
theorem clrM (c : α → List AV) {l y : List α} {lo hi : Int} {z : α} (h : clr l lo hi z = some y) : (l.map c).take lo.toNat ++ List.replicate (hi - lo).toNat (c z) ++ (l.map c).drop hi.toNat = y.map c := by
  rw [← (clrb h).2.2.2]; simp only [List.map_append, List.map_take, List.map_drop, List.map_replicate]
end

section
variable {P : Program} [Tab P] {N n0 : Nat} {Q : Post} {ops : Array Oper} {rest : List Oper} {σ : List (Nat × AV)} {H A : List (Nat × Nat × AV)} {O O2 : List (Nat × Kind)} {n i : Nat}
  {d : Nat} {op : Op} {ty : TypeId} {pos : String} {af : Array Edge} {gd : Option (Nat × Bool)} {s : St} {w0 : World} {g0 : G} {a : Act} {w : World} {g : G}

/-- A part of a row that is written into. -/
theorem va_slW {t e : TypeId} {x : Operand} {lo hi : Option Operand} {z k : Nat} {α : Type} {c : α → List AV} {b : List α} {l h : Int} {u : Unit} {j je : TI} (ht : ti P t = some j) (hk : j.k = .slice e) (he : ti P e = some je) (hz : Nat.beq je.size z = true)
    (hx : ev s.σ x = .own k) (hO : lkO s.O k = some (.wr z (b.map c))) (hlo : bndI s 0 lo l) (hhi : bndI s b.length hi h) (hv : vw b.length l h = some u) : ValAt P N n0 s (.slice t x lo hi none) (.via k (.view l.toNat (h - l).toNat)) := by
  rintro ⟨dst, op, type, pos, after, guard⟩ rfl w0 g0 a w g hin
  obtain ⟨_, _, _, h2⟩ := ti_tells ht
  obtain ⟨_, _, _, h3⟩ := ti_tells he
  have hu : P.underlying t = some (.slice e) := by rw [h2.und, h2.desc_slice hk]
  simp only [Nat.beq_eq] at hz
  obtain ⟨v0, v1, v2, v3⟩ := vwb hv
  have r1 := rep_ev hin.slots x
  rw [hx] at r1
  obtain ⟨_, q2, ad, cap, q3, q4, q5, q6⟩ := hin.owns.at hO
  rw [List.length_map] at q3 q4
  have e1 : a.eval x = .slice ad b.length cap := by
    have : g.own k = some (a.eval x) := r1
    rw [q3] at this; exact (Option.some.inj this).symm
  cases ad with
  | none =>
    have := (q5 rfl).1
    have : b = [] := by simpa using this
    subst this; simp at v3
  | some ad =>
    obtain ⟨ho, _⟩ := q6 ad rfl
    obtain ⟨bb, off, sp⟩ := ad
    obtain rfl : sp = none := ho.1
    have hbd := run_bounds (P := P) (w := w) (len := b.length) (cap := cap) (bnd_val hin (bndI_nat hlo v0)) (bnd_val hin (bndI_nat (d := b.length) hhi (by omega))) true (by omega) (by omega)
    refine ⟨.slice (if cap = l.toNat then some ⟨bb, off, none⟩ else (some ⟨bb, off, none⟩ : Option Addr).map (·.add (l.toNat * je.size))) (h.toNat - l.toNat) (cap - l.toNat), run_value ?_, _, q3, ⟨⟨bb, off, none⟩, _, cap, rfl, by omega, ?_⟩, rfl⟩
    · simp only [Instr.sliceAt, Instr.slice, Sem.run_bind, run_underlying hu, Result.andThen_ok, e1, Option.map_none, hbd, h3.run_size, Sem.run_pure]
    · rw [q2, ← hz, show (h - l).toNat = h.toNat - l.toNat by omega]
      by_cases hc : cap = l.toNat
      · simp [hc]
      · simp [hc, addr_add]

/-- An element's place in a part. -/
theorem va_placeV {t e : TypeId} {x ix : Operand} {z k : Nat} {xs : List (List AV)} {kk : IntKind} {iv l m : Int} {u : Unit} {j je : TI} (ht : ti P t = some j) (hk : j.k = .slice e) (he : ti P e = some je) (hz : Nat.beq je.size z = true)
    (hx : ev s.σ x = .via k (.view l.toNat m.toNat)) (hO : lkO s.O k = some (.wr z xs)) (hi : ev s.σ ix = .int kk iv) (h0 : 0 ≤ l) (h1 : gvi m iv = some u) : ValAt P N n0 s (.indexAddr t x ix) (.eptr k (l + iv).toNat 0) := by
  rintro ⟨dst, op, type, pos, after, guard⟩ rfl w0 g0 a w g hin
  obtain ⟨_, _, _, h2⟩ := ti_tells ht
  obtain ⟨_, _, _, h3⟩ := ti_tells he
  have hd := h2.desc_slice hk
  simp only [Nat.beq_eq] at hz
  obtain ⟨b0, b1⟩ := gvib h1
  have r1 := rep_ev hin.slots x
  rw [hx] at r1
  have r2 := rep_ev hin.slots ix
  rw [hi] at r2
  obtain ⟨_, q2, ad, cap, q3, q4, q5, q6⟩ := hin.owns.at hO
  obtain ⟨uu, e1, ⟨ad', l', cap', e2, hle, e3⟩, _⟩ := r1
  rw [q3] at e1
  obtain rfl := Option.some.inj e1
  obtain ⟨rfl, _, rfl⟩ : ad = some ad' ∧ xs.length = l' ∧ cap = cap' := by simpa using e2
  obtain ⟨ho, _⟩ := q6 ad' rfl
  obtain ⟨bb, off, sp⟩ := ad'
  obtain rfl : sp = none := ho.1
  have e4 : a.eval ix = .int kk iv := r2
  have hpe : P.elem t = e := by simp [Program.elem, h2.und, hd]
  have hne : ¬ cap = l.toNat := by omega
  rw [if_neg hne] at e3
  have hcond : 0 ≤ iv ∧ iv < (m.toNat : Int) := ⟨b0, by omega⟩
  refine ⟨.pointer (some ⟨bb, off + l.toNat * z + iv.toNat * je.size, none⟩), run_value ?_, ⟨bb, off, none⟩, xs.length, cap, q3, by rw [q2, hz, show (l + iv).toNat = l.toNat + iv.toNat by omega, Nat.add_mul]; simp [Nat.add_assoc]⟩
  have e3' : a.eval x = .slice (some ⟨bb, off + l.toNat * z, none⟩) m.toNat (cap - l.toNat) := by rw [← q2]; exact e3
  rw [e3', e4, run_indexAt_slice w t ⟨bb, off + l.toNat * z, none⟩ m.toNat (cap - l.toNat) kk iv (by rw [h2.und, hd, hpe]), if_pos hcond, hpe]
  simp [h3.run_size, addr_add]

/-- How many elements a part has. -/
theorem va_lenV {t e : TypeId} {x : Operand} {k : Nat} {l m : Int} {j : TI} (ht : ti P t = some j) (hk : j.k = .slice e) (hx : ev s.σ x = .via k (.view l.toNat m.toNat)) (h0 : 0 ≤ m) :
    ValAt P N n0 s (.call ⟨.builtin .len, #[x], #[t]⟩) (.int .i64 m) := by
  rintro ⟨dst, op, type, pos, after, guard⟩ rfl w0 g0 a w g hin
  obtain ⟨_, _, _, h2⟩ := ti_tells ht
  have hd := h2.desc_slice hk
  have r1 := rep_ev hin.slots x
  rw [hx] at r1
  obtain ⟨uu, e1, ⟨ad', l', cap', e2, hle, e3⟩, _⟩ := r1
  refine ⟨.int .i64 m, ?_, rfl⟩
  have hrun : (builtin .len #[t] type (#[x].map fun | .const _ => true | _ => false) (#[x].map a.eval)).run P w = .ok (.value (.int .i64 m)) w := by
    simp only [builtin]
    refine run_value (u := .int .i64 m) ?_
    have : (#[x].map a.eval) = #[a.eval x] := by simp
    rw [this, e3]
    subst hd
    simp [Builtin.len_, h2.run_und, goInt, Int.toNat_of_nonneg h0]
  exact hrun

/-- Cells of a row that is written into, written. -/
theorem Inv.wroteF (hin : Inv N n0 w0 g0 s a w g) {z k p : Nat} {xs ys : List (List AV)} {cs : List AV} {vals : List Value} (hO : lkO s.O k = some (.wr z xs)) {ad : Addr} {l cap : Nat} (ho : g.own k = some (.slice (some ad) l cap))
    (hy : Wide z ys) (hyl : ys.length = xs.length) (hfl : ys.flatten = xs.flatten.take p ++ cs ++ xs.flatten.drop (p + cs.length)) (hp : p + cs.length ≤ xs.length * z) (hv : RepL w g cs vals) :
    (∀ j, j < vals.length → (w.cell? ⟨ad.block, ad.off + p + j, none⟩).isSome = true ∧ w.frozen? ⟨ad.block, ad.off + p + j, none⟩ = false) ∧
    Inv N n0 w0 g0 ⟨s.σ, s.H, (k, .wr z ys) :: dropO [k] s.O, s.n⟩ a (w.setCells ad.block (ad.off + p) vals) g := by
  obtain ⟨hw, hwd, rfl, hcap, ⟨hsp, howner, cc, e, fr, hcc, hcs, hfz⟩, htop, vs, hrep, hcell⟩ := wr_cells hin hO ho
  obtain ⟨b, off, sp⟩ := ad
  simp only at hsp howner hcc hcs htop hcell
  subst hsp
  have hlen := hv.length
  have hm2 : xs.length * z ≤ cap * z := Nat.mul_le_mul_right _ hcap
  have hvl : vs.length = xs.length * z := by rw [hrep.length, hw.flatten_length]
  let q := off + p
  let w' := w.setCells b q vals
  have hok : ∀ j, j < vals.length → (w.cell? ⟨b, q + j, none⟩).isSome = true ∧ w.frozen? ⟨b, q + j, none⟩ = false := fun j hj => by
    have hin' : q + j < cc.size := by simp only [q]; omega
    exact ⟨by rw [cell_of_cells hcc]; simp [hin'], frozen_not hcc hfz hin'⟩
  refine ⟨hok, ?_⟩
  obtain ⟨m1, m2, m3, m4⟩ := setCells_meta b vals q w
  obtain ⟨c', hc', hcs'⟩ := setCells_shape b vals q w hcc
  have hst : ∀ c o, o < g.top c → w'.cell? ⟨c, o, none⟩ = w.cell? ⟨c, o, none⟩ := fun c o ho => by
    refine World.cell?_setCells_out b vals q w _ fun e _ => .inl ?_
    simp only at e; subst e; show o < q; simp only [q]; omega
  have hm : Mono w g w' g := ⟨⟨fun _ => Nat.le_refl _, hst⟩, fun _ _ e => e, fun _ _ e => e, fun _ _ _ => rfl⟩
  refine hin.turn (w' := w') (g' := g) (n' := s.n) (O' := [(k, .wr z ys)]) [k] m1 m2 m3 (by rw [m4]; exact Nat.le_refl _) hst (fun _ => Nat.le_refl _)
    (fun b' hb' hno => by
      have hbb : b' ≠ b := fun e => by subst e; exact hno k (by simp) howner
      exact ⟨setCells_other b vals q w hbb, rfl, rfl⟩)
    (fun _ _ _ _ h => h) (fun _ _ => ⟨rfl, rfl, rfl⟩)
    (fun i hi => by
      obtain rfl : i = k := by simpa using hi
      exact ⟨_, ho⟩)
    { hin.wf with topNew := fun b hb => hin.wf.topNew b (by rwa [m4] at hb), ownNew := fun b hb => hin.wf.ownNew b (by rwa [m4] at hb), blkOwner := fun id b hb => (by
        obtain ⟨k1, k2, k3, k4⟩ := hin.wf.blkOwner id b hb
        exact ⟨k1, (by rw [m4]; exact k2), k3, k4⟩) } (Nat.le_refl _) (fun i K hx => ?_)
  simp only [lkO] at hx
  split at hx
  · rename_i hi
    have hi' : k = i := by simpa using hi
    subst hi'
    obtain rfl := Option.some.inj hx
    refine ⟨hy, hwd, some ⟨b, off, none⟩, cap, by rw [ho, hyl], by rw [hyl]; exact hcap, (fun e => by cases e), fun ad eq => ?_⟩
    obtain rfl := Option.some.inj eq
    refine ⟨⟨rfl, howner, c', e, fr, hc', by show off + cap * z ≤ c'.size; omega, by rw [hcs']; exact hfz⟩, htop, vs.take p ++ vals ++ vs.drop (p + vals.length), ?_, fun j v hj => ?_⟩
    · rw [hfl, hlen]
      exact RepL.append (RepL.append (RepL.mono _ _ hm (RepL.take _ hrep)) (RepL.mono _ _ hm hv)) (RepL.mono _ _ hm (RepL.drop _ hrep))
    · rw [list_seg_get _ _ _ _ (by omega)] at hj
      split at hj
      · rename_i hh
        obtain ⟨h1, h2⟩ := hh
        obtain ⟨h3, rfl⟩ := List.getElem?_eq_some_iff.1 hj
        have := World.cell?_setCells_in b vals q w (fun i hi => (hok i hi).1) (j - p) h3
        show w'.cell? ⟨b, off + j, none⟩ = _
        rwa [show q + (j - p) = off + j by simp only [q]; omega] at this
      · rename_i hh
        rw [← hcell j v hj]
        refine World.cell?_setCells_out b vals q w _ fun _ _ => ?_
        show off + j < q ∨ q + vals.length ≤ off + j
        simp only [q]
        by_cases h : p ≤ j
        · right; have := fun h2 => hh ⟨h, h2⟩; omega
        · left; omega
  · cases hx

theorem flatten_replicate {m z : Nat} {r : List AV} (h : r.length = z) : (List.replicate m r).flatten.length = m * z := by
  rw [Wide.flatten_length (n := z) (fun q hq => by rw [List.eq_of_mem_replicate hq]; exact h)]; simp

theorem zeroCells_repL {zs : List AV} {zv : Array Value} {w : World} {g : G} (h : RepL w g zs zv.toList) : ∀ m, RepL w g (List.replicate m zs).flatten (Builtin.zeroCells zv m).toList := by
  intro m
  have hlen := h.length
  have key : (Builtin.zeroCells zv m).toList = (List.replicate m zv.toList).flatten := by
    apply List.ext_getElem?
    intro j
    have hfl : ((List.replicate m zv.toList).flatten).length = m * zv.size := by simp
    by_cases hj : j < m * zv.size
    · have hz : 0 < zv.size := by
        rcases Nat.eq_zero_or_pos zv.size with h0 | h0
        · rw [h0] at hj; omega
        · exact h0
      have h1 : (Builtin.zeroCells zv m).toList[j]? = some (zv[j % zv.size]!) := by
        simp [Builtin.zeroCells, hj]
      have h2 : ∀ (m j : Nat), j < m * zv.size → ((List.replicate m zv.toList).flatten)[j]? = zv.toList[j % zv.size]? := by
        intro m
        induction m with
        | zero => intro j hj; omega
        | succ m ih =>
          intro j hj
          rw [List.replicate_succ, List.flatten_cons]
          by_cases hlt : j < zv.size
          · rw [List.getElem?_append_left (by simpa using hlt), Nat.mod_eq_of_lt hlt]
          · rw [List.getElem?_append_right (by simp; omega), Array.length_toList, ih (j - zv.size) (by rw [Nat.add_mul, Nat.one_mul] at hj; omega), ← Nat.mod_eq_sub_mod (by omega)]
      rw [h1, h2 m j hj]
      have hlt := Nat.mod_lt j hz
      simp [hlt]
    · rw [List.getElem?_eq_none (by simp [Builtin.zeroCells]; omega), List.getElem?_eq_none (by rw [hfl]; omega)]
  rw [key]
  induction m with
  | zero => simp [RepL]
  | succ m ih =>
    simp only [List.replicate_succ, List.flatten_cons]
    have key' : (Builtin.zeroCells zv m).toList = (List.replicate m zv.toList).flatten := by
      apply List.ext_getElem?
      intro j
      have hfl : ((List.replicate m zv.toList).flatten).length = m * zv.size := by simp
      by_cases hj : j < m * zv.size
      · have hz : 0 < zv.size := by
          rcases Nat.eq_zero_or_pos zv.size with h0 | h0
          · rw [h0] at hj; omega
          · exact h0
        have h1 : (Builtin.zeroCells zv m).toList[j]? = some (zv[j % zv.size]!) := by
          simp [Builtin.zeroCells, hj]
        have h2 : ∀ (m j : Nat), j < m * zv.size → ((List.replicate m zv.toList).flatten)[j]? = zv.toList[j % zv.size]? := by
          intro m
          induction m with
          | zero => intro j hj; omega
          | succ m ih =>
            intro j hj
            rw [List.replicate_succ, List.flatten_cons]
            by_cases hlt : j < zv.size
            · rw [List.getElem?_append_left (by simpa using hlt), Nat.mod_eq_of_lt hlt]
            · rw [List.getElem?_append_right (by simp; omega), Array.length_toList, ih (j - zv.size) (by rw [Nat.add_mul, Nat.one_mul] at hj; omega), ← Nat.mod_eq_sub_mod (by omega)]
        rw [h1, h2 m j hj]
        have hlt := Nat.mod_lt j hz
        simp [hlt]
      · rw [List.getElem?_eq_none (by simp [Builtin.zeroCells]; omega), List.getElem?_eq_none (by rw [hfl]; omega)]
    exact RepL.append h (ih key')

theorem ofConst_repL {w : World} {g : G} : ∀ vs : List Value, RepL w g (vs.map ofConst) vs
  | [] => rfl
  | v :: vs => ⟨v, vs, rfl, rep_const v, ofConst_repL vs⟩

/-- A part is made zero. -/
theorem rclr {t e : TypeId} {x : Operand} {z k : Nat} {α : Type} {c : α → List AV} {b y : List α} {l h : Int} {zr : α} {j je : TI} (ht : ti P t = some j) (hk : j.k = .slice e) (he : ti P e = some je) (hz : Nat.beq je.size z = true) (hzl : Nat.beq je.zero.length z = true)
    (hx : ev σ x = .via k (.view l.toNat (h - l).toNat)) (hO : lkO O k = some (.wr z (b.map c))) (hzr : je.zero = c zr) (hone : je.zero.all AV.one = true) (hc : clr b l h zr = some y) (hO2 : nfOO (dropO [k] O) some = some O2)
    (kk : aops P N n0 ops rest Q ⟨σ, H, (k, .wr z (y.map c)) :: O2, n⟩) :
    aops P N n0 ops (⟨none, .call ⟨.builtin .clear, #[x], #[t]⟩, ty, pos, af, none⟩ :: rest) Q ⟨σ, H, O, n⟩ := by
  rw [nfOO_eq] at hO2
  obtain rfl := Option.some.inj hO2
  refine aops_value rfl (fun w0 g0 a w g hi => ?_) kk
  obtain ⟨_, _, _, h2⟩ := ti_tells ht
  obtain ⟨inf, _, zv, h3⟩ := ti_tells he
  have hu : P.underlying t = some (.slice e) := by rw [h2.und, h2.desc_slice hk]
  simp only [Nat.beq_eq] at hz hzl
  obtain ⟨c0, c1, c2, c3⟩ := clrb hc
  have r1 := rep_ev hi.slots x
  rw [show ev (St.mk σ H O n).σ x = _ from hx] at r1
  obtain ⟨q1, q2, ad, cap, q3, q4, q5, q6⟩ := hi.owns.at hO
  obtain ⟨uu, e1, ⟨ad', l', cap', e2, hle, e3⟩, _⟩ := r1
  rw [q3] at e1
  obtain rfl := Option.some.inj e1
  obtain ⟨rfl, _, rfl⟩ : ad = some ad' ∧ (b.map c).length = l' ∧ cap = cap' := by simpa using e2
  obtain ⟨ho, _⟩ := q6 ad' rfl
  obtain ⟨bb, off, sp⟩ := ad'
  obtain rfl : sp = none := ho.1
  rw [List.length_map] at q3 q4
  have hxl : (b.map c).length = b.length := List.length_map ..
  have hcl : (c zr).length = z := by rw [← hzr]; exact hzl
  by_cases hm : (h - l).toNat = 0
  · -- nothing
    have hlh : h = l := by omega
    have hy : y = b := by
      rw [← c3, hlh]; simp
    refine ⟨.tuple #[], w, g, run_valueW (u := .tuple #[]) ?_, ?_⟩
    · simp [builtin, Builtin.clear_, e3, hm, run_underlying hu]
    · rw [hy]
      refine { hi with owns := fun i K hK => ?_ }
      simp only [lkO] at hK
      split at hK
      · rename_i hh
        have : k = i := by simpa using hh
        subst this
        obtain rfl := Option.some.inj hK
        exact hi.owns.at hO
      · obtain ⟨h5, _⟩ := lkO_dropO hK
        exact hi.owns.at h5
  · have hne : ¬ cap = l.toNat := by omega
    rw [if_neg hne] at e3
    have hz1 : zv.cells.toList.map ofConst = c zr := by rw [← h3.zeros]; exact hzr
    have hrz : RepL w g (c zr) zv.cells.toList := by rw [← hz1]; exact ofConst_repL _
    have hcs := zeroCells_repL hrz (h - l).toNat
    have hflt : ((List.replicate (h - l).toNat (c zr)).flatten).length = (h - l).toNat * z := flatten_replicate hcl
    have hmul : l.toNat * z + (h - l).toNat * z = h.toNat * z := by rw [← Nat.add_mul]; congr 1; omega
    have hle2 : h.toNat * z ≤ b.length * z := Nat.mul_le_mul_right _ (by omega)
    have hyw : Wide z (y.map c) := by
      rw [← clrM c hc]
      intro r hr
      rcases List.mem_append.1 hr with hr | hr
      · rcases List.mem_append.1 hr with hr | hr
        · exact q1 r (List.mem_of_mem_take hr)
        · rw [List.eq_of_mem_replicate hr]; exact hcl
      · exact q1 r (List.mem_of_mem_drop hr)
    have htk : ∀ m, ((b.map c).take m).flatten = (b.map c).flatten.take (m * z) := by
      intro m
      have hw := q1
      generalize b.map c = xs at hw
      induction m generalizing xs with
      | zero => simp
      | succ m ih =>
        cases xs with
        | nil => simp
        | cons x xs =>
          have h1 : x.length = z := hw x (by simp)
          simp only [List.take_succ_cons, List.flatten_cons]
          rw [ih xs (fun r hr => hw r (by simp [hr])), Nat.add_mul, Nat.one_mul, Nat.add_comm, ← h1, List.take_length_add_append]
    have hdp : ∀ m, ((b.map c).drop m).flatten = (b.map c).flatten.drop (m * z) := by
      intro m
      have hw := q1
      generalize b.map c = xs at hw
      induction m generalizing xs with
      | zero => simp
      | succ m ih =>
        cases xs with
        | nil => simp
        | cons x xs =>
          have h1 : x.length = z := hw x (by simp)
          simp only [List.drop_succ_cons, List.flatten_cons]
          rw [ih xs (fun r hr => hw r (by simp [hr])), Nat.add_mul, Nat.one_mul, Nat.add_comm, ← h1, List.drop_length_add_append]
    have hfl : (y.map c).flatten = (b.map c).flatten.take (l.toNat * z) ++ (List.replicate (h - l).toNat (c zr)).flatten ++ (b.map c).flatten.drop (l.toNat * z + ((List.replicate (h - l).toNat (c zr)).flatten).length) := by
      rw [← clrM c hc, hflt, hmul, List.flatten_append, List.flatten_append, htk, hdp]
    obtain ⟨hok, hi'⟩ := hi.wroteF (p := l.toNat * z) hO q3 hyw (by rw [List.length_map, hxl, ← c3]; simp; omega) hfl (by rw [hflt, hxl]; omega) hcs
    have h1' : ∀ v ∈ (Builtin.zeroCells zv.cells (h - l).toNat).toList, v.oneCell' = true := RepL.ones hi.wf.ownSl hcs (by
      rw [List.all_eq_true]
      intro q hq
      obtain ⟨r, hr, hq⟩ := List.mem_flatten.1 hq
      rw [List.eq_of_mem_replicate hr, ← hzr] at hq
      exact List.all_eq_true.1 hone q hq)
    have hst := run_storeCells_cells (P := P) bb (off + l.toNat * z) (Builtin.zeroCells zv.cells (h - l).toNat).toList 0 w (fun j hj => by simpa using (hok j hj).1) (fun j hj => by simpa using (hok j hj).2) h1'
    simp only [Nat.add_zero] at hst
    refine ⟨.tuple #[], _, g, run_valueW (u := .tuple #[]) ?_, hi'⟩
    have e3' : a.eval x = .slice (some ⟨bb, off + l.toNat * z, none⟩) (h - l).toNat (cap - l.toNat) := by rw [← q2]; exact e3
    obtain ⟨m', hm'⟩ : ∃ m', (h - l).toNat = m' + 1 := ⟨(h - l).toNat - 1, by omega⟩
    rw [hm'] at e3' hst ⊢
    simp [builtin, Builtin.clear_, e3', run_underlying hu, h3.run_zero, hst]

/-- A part from the beginning on, as a row of its own. -/
theorem view_own (t k : Nat) {z : Nat} {α : Type} {c : α → List AV} {b y : List α} {h : Int} (hs : lk σ t = .via k (.view (0 : Int).toNat (h - 0).toNat)) (hO : lkO O k = some (.wr z (b.map c))) (hg : gsl b 0 h = some y) (hi : Inv N n0 w0 g0 ⟨σ, H, O, n⟩ a w g) :
    ∃ g', Inv N n0 w0 g0 ⟨(t, .own n) :: σ, H, (n, .wr z (y.map c)) :: dropO [k] O, n + 1⟩ a w g' := by
  obtain ⟨q1, q2, ad, cap, q3, q4, q5, q6⟩ := hi.owns.at hO
  have hsl := hi.slots t
  rw [show lk (St.mk σ H O n).σ t = _ from hs] at hsl
  obtain ⟨uu, e1, ⟨ad', l', cap', e2, hle, e3⟩, hone⟩ := hsl
  rw [q3] at e1
  obtain rfl := Option.some.inj e1
  obtain ⟨rfl, _, rfl⟩ : ad = some ad' ∧ (b.map c).length = l' ∧ cap = cap' := by simpa using e2
  obtain ⟨ho, htop, vs, hrep, hcell⟩ := q6 ad' rfl
  obtain ⟨bb, off, sp⟩ := ad'
  obtain ⟨hsp, howner, cc, ee, fr, hcc, hcs, hfz⟩ := ho
  simp only at hsp howner hcc hcs htop hcell
  subst hsp
  obtain ⟨h0, h1, h2, h3⟩ := gsb hg
  have hyl : y.length = h.toNat := by rw [← h3]; simp; omega
  have hyt : y.map c = (b.map c).take h.toNat := by rw [← h3]; simp [List.map_take]
  have e3' : a.tmps.getD t undef = .slice (some ⟨bb, off, none⟩) (y.map c).length cap := by
    rw [e3, List.length_map, hyl]
    by_cases hc : cap = 0
    · simp [hc]
    · simp [hc]
  have hwy : Wide z (y.map c) := by rw [hyt]; exact fun r hr => q1 r (List.mem_of_mem_take hr)
  rw [List.length_map] at q4
  obtain ⟨g', k1, k2, hm⟩ := hi.moved (k := k) (z := z) (K := .wr z (y.map c)) (v := .slice (some ⟨bb, off, none⟩) (y.map c).length cap) (b := bb) (w' := w) q3 howner rfl rfl rfl rfl rfl (fun _ _ => rfl) (fun _ _ => rfl) (fun g' e1 e2 e3 e4 hm => by
    refine ⟨hwy, e2, some ⟨bb, off, none⟩, cap, e1, by rw [List.length_map, hyl]; omega, (fun e => by cases e), fun ad' e => ?_⟩
    obtain rfl := Option.some.inj e
    refine ⟨⟨rfl, e4, cc, ee, fr, hcc, hcs, hfz⟩, by rw [e3]; exact htop, vs.take (y.map c).flatten.length, ?_, fun j v hj => ?_⟩
    · have := RepL.mono _ _ hm (RepL.take (y.map c).flatten.length hrep)
      have hpre : (b.map c).flatten.take (y.map c).flatten.length = (y.map c).flatten := by
        have : b.map c = y.map c ++ (b.map c).drop h.toNat := by rw [hyt, List.take_append_drop]
        rw [this, List.flatten_append, List.take_left]
      rwa [hpre] at this
    · rw [List.getElem?_take] at hj
      split at hj
      · exact hcell j v hj
      · cases hj)
  refine ⟨g', Inv.putS k1 (v := .own n) ?_⟩
  show g'.own n = some _
  rw [e3']; exact k2
end
end Go.Pv
namespace Go.Pv
section
variable {N n0 : Nat} {σ : List (Nat × AV)} {H : List (Nat × Nat × AV)} {O : List (Nat × Kind)} {n : Nat} {w0 : World} {g0 : G} {a : Act} {w : World} {g : G}
/-- A row under a new number, told by a slot. -/
theorem row_slot (t k : Nat) {wr : Bool} {z : Nat} {xs : List (List AV)} (hs : lk σ t = .own k) (hO : lkO O k = some (mkRow wr z xs)) (hi : Inv N n0 w0 g0 ⟨σ, H, O, n⟩ a w g) :
    ∃ g', Inv N n0 w0 g0 ⟨(t, .own n) :: σ, H, (n, mkRow wr z xs) :: dropO [k] O, n + 1⟩ a w g' := by
  obtain ⟨g', v, k1, k2, k3, k4⟩ := hi.again wr hO
  refine ⟨g', Inv.putS k1 (v := .own n) ?_⟩
  have hsl := hi.slots t
  rw [show lk (St.mk σ H O n).σ t = _ from hs] at hsl
  have e : g.own k = some (a.tmps.getD t undef) := hsl
  show g'.own n = some _
  rw [k2] at e
  rw [← Option.some.inj e]; exact k3
end
end Go.Pv
namespace Go.Pv
section
variable {P : Program} [Tab P] {N n0 : Nat} {ops : Array Oper} {rest : List Oper} {σ : List (Nat × AV)} {H H2 : List (Nat × Nat × AV)} {O O2 Or : List (Nat × Kind)} {n i : Nat}
  {dst : Option Nat} {op : Op} {ty : TypeId} {pos : String} {af : Array Edge} {gd : Option (Nat × Bool)} {C : List XI → Prop} {K : St → Prop}
theorem oi0 {R : List Nat} : OIn R [] := trivial
theorem oi1 {R : List Nat} {K : Kind} {r : List (Nat × Kind)} (h : KIn R K) (k : OIn R r) : OIn R ((i, K) :: r) := ⟨h, k⟩
theorem ki_wr {R : List Nat} {z : Nat} {xs : List (List AV)} (h : limLL 0 xs = true) : KIn R (.wr z xs) := inRLL_closed R xs h
/-- An operation that changes, or makes, things, where rows are written into. -/
theorem xW (R : List Nat) (v : AV) (n1 : Nat) (H1 : List (Nat × Nat × AV)) (O1 : List (Nat × Kind)) (hd : dOk N dst = true) (hg : wantedS ops σ gd = some true)
    (hs : aops P N n ops [⟨dst, op, ty, pos, af, none⟩] (fun e s' => e = .normal ∧ s' = ⟨updS dst v (restr ⟨dst, op, ty, pos, af, gd⟩ σ), H1, O1, n1⟩) ⟨restr ⟨dst, op, ty, pos, af, gd⟩ σ, rH R H, rO R O, n⟩)
    (hc : (chkE R n n1 H1 O1 && sInB R (restr ⟨dst, op, ty, pos, af, gd⟩ σ) && hInB R (rH R H)) = true) (eR : nfOO (rO R O) some = some Or) (hO : OIn R Or)
    (eH : nfHH (newH (R ++ List.range' n (n1 - n)) H1 H) some = some H2) (eO : nfOO (newO (R ++ List.range' n (n1 - n)) O1 O) some = some O2)
    (k : DX P N n0 ops rest (updS dst v σ) H2 O2 n1 (fun xs => C (⟨R, R ++ List.range' n (n1 - n), H, O, n⟩ :: xs)) K) : DX P N n0 ops (⟨dst, op, ty, pos, af, gd⟩ :: rest) σ H O n C K := by
  simp only [Bool.and_eq_true] at hc
  rw [nfOO_eq] at eR
  exact xe R v n1 H1 O1 hd hg hs hc.1.1 (sInB_ok hc.1.2) (hInB_ok hc.2) (by rw [Option.some.inj eR]; exact hO) eH eO k
omit [Tab P] in
theorem rkO {Q : Post} {O' : List (Nat × Kind)} (h : O = O') (k : aops P N n0 ops rest Q ⟨σ, H, O', n⟩) : aops P N n0 ops rest Q ⟨σ, H, O, n⟩ := h ▸ k
theorem wO {α : Type} {c : α → List AV} {l : List α} {ρ : Nat → Nat} {z : Nat} {O' : List (Nat × Kind)} (hc : ∀ x, limL 0 (c x) = true) (h : O = O') : (i, Kind.wr z ((l.map c).map (renL ρ))) :: O = (i, Kind.wr z (l.map c)) :: O' := by
  rw [renLL_closed _ (lmM hc l), h]
theorem sO {e : Nat × Kind} {O' : List (Nat × Kind)} (h : O = O') : e :: O = e :: O' := by rw [h]
end
end Go.Pv
namespace Go.Pv
theorem repL_errs {w : World} {g : G} {t : TypeId} {e : Er} : ∀ {xs : List AV} {vs : List Value}, RepL w g (xs ++ [errK t e]) vs → RepL w g (xs ++ [.err t e]) vs
  | [], _, ⟨b, l2, h, hb, hr⟩ => ⟨b, l2, h, err_rep.2 hb, hr⟩
  | _ :: _, _, ⟨b, l2, h, hb, hr⟩ => ⟨b, l2, h, hb, repL_errs hr⟩
/-- What a slot's error is, told as an error: an answer's last part. -/
theorem pcall_errs {P : Program} {f : FuncId} {args xs : List AV} {t : TypeId} {e : Er} (h : PCall P f args (· = .tup (xs ++ [errK t e]))) : PCall P f args (· = .tup (xs ++ [.err t e])) :=
  ⟨h.1, fun w top vals ht hlay hr => (h.2 w top vals ht hlay hr).mono fun e' w' ⟨v, r, top', h1, h2, h3, h4⟩ => ⟨v, _, top', h1, rfl, by
    subst h2
    obtain ⟨vs, hv, hl⟩ := h3
    exact ⟨vs, hv, repL_errs hl⟩, h4⟩⟩
end Go.Pv
namespace Go.Pv
theorem rrO {P : Program} [Tab P] {m : Nat} {rs : List ResultVar} {K : AV → List (Nat × Nat × AV) → List (Nat × Kind) → Nat → Prop} {s : St} (L : List Nat) (H : List (Nat × Nat × AV)) (O : List (Nat × Kind)) {r : AV}
    (h : resO P s rs = some (r.ren (rho L 0))) (hl : r.lim L.length = true) (hk : keepsTo m L 0 = true) (hg : good s.n L = true) (hH : SubHR s.H s.O L H) (hO : SubOR s.O L O) (k : K r H O L.length) : retPostA P m rs K .ret s :=
  ⟨r, L, ⟨[], H, O, L.length⟩, .inr h, hl, hk, ⟨hg, rfl, trivial, hH, hO⟩, k⟩
theorem rrO' {P : Program} [Tab P] {m : Nat} {rs : List ResultVar} {K : AV → List (Nat × Nat × AV) → List (Nat × Kind) → Nat → Prop} {s : St} (L : List Nat) (H : List (Nat × Nat × AV)) (O : List (Nat × Kind)) {r : AV}
    (h : resO P s rs = some (r.ren (rho L 0))) (hl : r.lim L.length = true) (hk : keepsTo m L 0 = true) (hg : good s.n L = true) (hH : SubHR s.H s.O L H) (hO : SubOR s.O L O) (k : K r H O L.length) : retPostA P m rs K .normal s :=
  ⟨r, L, ⟨[], H, O, L.length⟩, .inr h, hl, hk, ⟨hg, rfl, trivial, hH, hO⟩, k⟩
end Go.Pv
