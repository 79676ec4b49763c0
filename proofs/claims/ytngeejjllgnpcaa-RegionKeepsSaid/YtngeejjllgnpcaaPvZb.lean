/- States written out anew; the rules for rows and calls in the form in which a walk applies them. -/
import Derived.Test.YtngeejjllgnpcaaPvZa
namespace Go.Pv
set_option linter.unusedSimpArgs false
set_option linter.unusedSectionVars false
set_option linter.unusedVariables false

theorem esl {a b : List (List AV)} (h : a = b) : AV.sl a = AV.sl b := by rw [h]
theorem estr {a b : ByteArray} (h : a = b) : AV.str a = AV.str b := by rw [h]

def nfLL {β : Type} : List (List AV) → (List (List AV) → Option β) → Option β
  | [], k => k []
  | x :: r, k => nfL x fun x' => nfLL r fun r' => k (x' :: r')

theorem nfLL_eq {β : Type} : ∀ (xs : List (List AV)) (k : List (List AV) → Option β), nfLL xs k = k xs
  | [], _ => rfl
  | x :: r, k => by simp only [nfLL]; rw [nfL_eq x]; exact nfLL_eq r _

def nfOLL : Option (List (List AV)) → Option (List (List AV))
  | some v => nfLL v some
  | none => none

theorem nfOLL_eq (x : Option (List (List AV))) : nfOLL x = x := by cases x <;> simp [nfOLL, nfLL_eq]

def nfN {β : Type} (n : Nat) (k : Nat → Option β) : Option β :=
  match n with
  | 0 => k 0
  | m + 1 => k (m + 1)

theorem nfN_eq {β : Type} (n : Nat) (k : Nat → Option β) : nfN n k = k n := by cases n <;> rfl

def nfHH {β : Type} : List (Nat × Nat × AV) → (List (Nat × Nat × AV) → Option β) → Option β
  | [], k => k []
  | (i, o, v) :: r, k => nfN i fun i' => nfN o fun o' => v.nf fun v' => nfHH r fun r' => k ((i', o', v') :: r')

theorem nfHH_eq {β : Type} : ∀ (xs : List (Nat × Nat × AV)) (k : List (Nat × Nat × AV) → Option β), nfHH xs k = k xs
  | [], _ => rfl
  | (i, o, v) :: r, k => by simp only [nfHH]; rw [nfN_eq, nfN_eq, AV.nf_eq]; exact nfHH_eq r _

def nfK {β : Type} : Kind → (Kind → Option β) → Option β
  | .row z xs, k => k (.row z xs)
  | .wr z xs, k => k (.wr z xs)
  | .map ks vs, k => k (.map ks vs)
  | .sem s, k => k (.sem s)

theorem nfK_eq {β : Type} (K : Kind) (k : Kind → Option β) : nfK K k = k K := by cases K <;> rfl

def nfOO {β : Type} : List (Nat × Kind) → (List (Nat × Kind) → Option β) → Option β
  | [], k => k []
  | (i, K) :: r, k => nfN i fun i' => nfK K fun K' => nfOO r fun r' => k ((i', K') :: r')

theorem nfOO_eq {β : Type} : ∀ (xs : List (Nat × Kind)) (k : List (Nat × Kind) → Option β), nfOO xs k = k xs
  | [], _ => rfl
  | (i, K) :: r, k => by simp only [nfOO]; rw [nfN_eq, nfK_eq]; exact nfOO_eq r _

section
variable {P : Program} [Tab P] {N n0 : Nat} {Q : Post} {ops : Array Oper} {rest : List Oper} {σ : List (Nat × AV)} {H H2 A : List (Nat × Nat × AV)} {O O2 : List (Nat × Kind)} {n n2 i : Nat}
  {d : Nat} {op : Op} {ty : TypeId} {pos : String} {af : Array Edge} {gd : Option (Nat × Bool)} {s : St} {c : Code}

/-- The state, written out. -/
theorem ae (hH : nfHH H some = some H2) (hO : nfOO O some = some O2) (hn : nfN n some = some n2) (k : aops P N n0 ops rest Q ⟨σ, H2, O2, n2⟩) : aops P N n0 ops rest Q ⟨σ, H, O, n⟩ := by
  rw [nfHH_eq] at hH; rw [nfOO_eq] at hO; rw [nfN_eq] at hn
  obtain rfl := Option.some.inj hH; obtain rfl := Option.some.inj hO; obtain rfl := Option.some.inj hn
  exact k

/-- A slot, written out. -/
theorem as1 {v v2 : AV} (hv : v.nf some = some v2) (k : aops P N n0 ops rest Q ⟨(d, v2) :: σ, H, O, n⟩) : aops P N n0 ops rest Q ⟨(d, v) :: σ, H, O, n⟩ := by
  rw [AV.nf_eq] at hv
  obtain rfl := Option.some.inj hv
  exact k

/-- A row written out. -/
theorem rbs (wr : Bool) {t e : TypeId} {len : Nat} {parts : Array (Nat × Operand)} {i je : TI} {rows : List (List AV)} (hd : Nat.blt d N = true) (ht : ti P t = some i) (hk : i.k = .slice e) (he : ti P e = some je) (hzs : Nat.beq je.zero.length je.size = true)
    (hz0 : Nat.blt 0 je.size = true) (hsz : Nat.ble (len * je.size) 16777216 = true)
    (hr : nfOLL (rowsv je.size (List.replicate len je.zero) (parts.toList.map fun p => (p.1, if wr then ev σ p.2 else evs ⟨σ, H, O, n⟩ p.2))) = some rows) (hl : (wr || limLL 0 rows) = true)
    (hO : nfOO O some = some O2) (k : aops P N n0 ops rest Q ⟨(d, .own n) :: σ, H, (n, mkRow wr je.size rows) :: O2, n + 1⟩) : aops P N n0 ops (⟨some d, .buildSlice t len parts, ty, pos, af, none⟩ :: rest) Q ⟨σ, H, O, n⟩ := by
  rw [nfOLL_eq] at hr
  rw [nfOO_eq] at hO
  obtain rfl := Option.some.inj hO
  have hdr : dropO [] O = O := by
    have : ∀ O : List (Nat × Kind), dropO [] O = O := fun O => by
      induction O with
      | nil => rfl
      | cons e O ih => simp [dropO, idx, ih]
    exact this O
  have hl' : wr = true ∨ limLL 0 rows = true := by simpa using hl
  have := rN (ops := ops) (rest := rest) (Q := Q) (pos := pos) (af := af) (ty := ty) hd (na_build (N := N) (n0 := n0) (s := ⟨σ, H, O, n⟩) (ty := ty) wr ht hk he hzs hz0 hsz hr hl')
  rw [hdr] at this
  exact this k

/-- Something is added to a row. -/
theorem rap (wr : Bool) {z : Nat} {t tx e : TypeId} {x y : Operand} {xs ys : List (List AV)} {D : List Nat} {i je : TI} (hd : Nat.blt d N = true) (ht : ti P t = some i) (hk : i.k = .slice e)
    (he : ti P e = some je) (hz : Nat.beq je.size z = true) (hzs : Nat.beq je.zero.length z = true) (hz0 : Nat.blt 0 je.bytes = true) (hb : BaseV ⟨σ, H, O, n⟩ wr z x xs D) (hy : SrcV P ⟨σ, H, O, n⟩ wr z tx y ys) (hw : Wide z ys) (h1 : Ones ys)
    (hbytes : (xs.length + ys.length) * je.bytes ≤ 140737488355328) (hO : nfOO (dropO D O) some = some O2) (k : aops P N n0 ops rest Q ⟨(d, .own n) :: σ, H, (n, mkRow wr z (xs ++ ys)) :: O2, n + 1⟩) :
    aops P N n0 ops (⟨some d, .call ⟨.builtin .append, #[x, y], #[t, tx]⟩, ty, pos, af, none⟩ :: rest) Q ⟨σ, H, O, n⟩ := by
  rw [nfOO_eq] at hO
  obtain rfl := Option.some.inj hO
  exact rN hd (na_append wr ht hk he hz hzs hz0 hb hy hw h1 hbytes) k

/-- The rest of a row of the call's own. -/
theorem rtl {t e : TypeId} {x : Operand} {lo : Option Operand} {z m : Nat} {xs : List (List AV)} {l : Nat} {j je : TI} (hd : Nat.blt d N = true) (ht : ti P t = some j) (hk : j.k = .slice e) (he : ti P e = some je) (hz : Nat.beq je.size z = true)
    (hx : ev σ x = .own m) (hO : lkO O m = some (.row z xs)) (hlo : bnd ⟨σ, H, O, n⟩ 0 lo l) (hb : l ≤ xs.length) (hO2 : nfOO (dropO [m] O) some = some O2) (k : aops P N n0 ops rest Q ⟨(d, .own n) :: σ, H, (n, .row z (xs.drop l)) :: O2, n + 1⟩) :
    aops P N n0 ops (⟨some d, .slice t x lo none none, ty, pos, af, none⟩ :: rest) Q ⟨σ, H, O, n⟩ := by
  rw [nfOO_eq] at hO2
  obtain rfl := Option.some.inj hO2
  exact rN hd (na_tail ht hk he hz hx hO hlo hb) k

end
end Go.Pv
