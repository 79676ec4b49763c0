/- The rules once more, in the form in which a walk applies them: states and operations written out. -/
import Derived.Test.YtngeejjllgnpcaaPvG
namespace Go.Pv
set_option linter.unusedSimpArgs false
set_option linter.unusedSectionVars false
set_option linter.unusedVariables false

mutual
def AV.nf {β : Type} : AV → (AV → Option β) → Option β
  | .any, k => k .any
  | .bool b, k => k (.bool b)
  | .int t n, k => k (.int t n)
  | .str s, k => k (.str s)
  | .nilp, k => k .nilp
  | .nilS, k => k .nilS
  | .nilM, k => k .nilM
  | .ptr i o, k => k (.ptr i o)
  | .rd c, k => k (.rd c)
  | .sl c, k => k (.sl c)
  | .own i, k => k (.own i)
  | .raw v, k => k (.raw v)
  | .eptr i r c, k => k (.eptr i r c)
  | .nilI, k => k .nilI
  | .iface t x, k => AV.nf x fun x' => k (.iface t x')
  | .nilF, k => k .nilF
  | .fn f cs, k => nfL cs fun cs' => k (.fn f cs')
  | .agg cs, k => nfL cs fun cs' => k (.agg cs')
  | .tup cs, k => nfL cs fun cs' => k (.tup cs')
def nfL {β : Type} : List AV → (List AV → Option β) → Option β
  | [], k => k []
  | x :: r, k => AV.nf x fun x' => nfL r fun r' => k (x' :: r')
end

mutual
theorem AV.nf_eq {β : Type} : ∀ (x : AV) (k : AV → Option β), x.nf k = k x
  | .any, _ | .bool _, _ | .int _ _, _ | .str _, _ | .nilp, _ | .nilS, _ | .nilM, _ | .ptr _ _, _ | .rd _, _ | .sl _, _ | .own _, _ | .raw _, _ | .eptr _ _ _, _ | .nilI, _ | .nilF, _ => rfl
  | .iface t x, k => by simp only [AV.nf]; exact AV.nf_eq x _
  | .fn f cs, k => by simp only [AV.nf]; exact nfL_eq cs _
  | .agg cs, k => by simp only [AV.nf]; exact nfL_eq cs _
  | .tup cs, k => by simp only [AV.nf]; exact nfL_eq cs _
theorem nfL_eq {β : Type} : ∀ (cs : List AV) (k : List AV → Option β), nfL cs k = k cs
  | [], _ => rfl
  | x :: r, k => by simp only [nfL]; rw [AV.nf_eq x]; exact nfL_eq r _
end

def nfO : Option AV → Option AV
  | some v => v.nf some
  | none => none

theorem nfO_eq (x : Option AV) : nfO x = x := by cases x <;> simp [nfO, AV.nf_eq]

def nfOL : Option (List AV) → Option (List AV)
  | some v => nfL v some
  | none => none

theorem nfOL_eq (x : Option (List AV)) : nfOL x = x := by cases x <;> simp [nfOL, nfL_eq]

section
variable {P : Program} {N n0 : Nat} {Q : Post} {ops : Array Oper} {rest : List Oper} {σ : List (Nat × AV)} {H : List (Nat × Nat × AV)} {O : List (Nat × Kind)} {n : Nat}
  {d : Nat} {op : Op} {ty : TypeId} {pos : String} {af : Array Edge}

theorem rn (h : Q .normal ⟨σ, H, O, n⟩) : aops P N n0 ops [] Q ⟨σ, H, O, n⟩ := aops_nil h

/-- A value. -/
theorem rv [Tab P] {v : AV} (hd : Nat.blt d N = true) (hv : nfO (opv P ⟨σ, H, O, n⟩ op) = some v) (k : aops P N n0 ops rest Q ⟨(d, v) :: σ, H, O, n⟩) :
    aops P N n0 ops (⟨some d, op, ty, pos, af, none⟩ :: rest) Q ⟨σ, H, O, n⟩ :=
  aops_val rfl hd (by rw [nfO_eq] at hv; exact hv) k

/-- A value of which nothing is told as a constructor. -/
theorem rv' [Tab P] {v : AV} (hd : Nat.blt d N = true) (hv : opv P ⟨σ, H, O, n⟩ op = some v) (k : aops P N n0 ops rest Q ⟨(d, v) :: σ, H, O, n⟩) :
    aops P N n0 ops (⟨some d, op, ty, pos, af, none⟩ :: rest) Q ⟨σ, H, O, n⟩ :=
  aops_val rfl hd hv k

theorem rv0 [Tab P] {v : AV} (hv : opv P ⟨σ, H, O, n⟩ op = some v) (k : aops P N n0 ops rest Q ⟨σ, H, O, n⟩) :
    aops P N n0 ops (⟨none, op, ty, pos, af, none⟩ :: rest) Q ⟨σ, H, O, n⟩ :=
  aops_val rfl rfl hv k

/-- Guards: the guard's slot holds a known bool, nothing, or a bool that is not known. -/
theorem gy {dst : Option Tmp} {j e : Nat} {want : Bool} (hj : gslot ops j = some e) (he : Nat.blt e N = true) (hb : lk σ e = .bool want)
    (k : aops P N n0 ops (⟨dst, op, ty, pos, af, none⟩ :: rest) Q ⟨σ, H, O, n⟩) : aops P N n0 ops (⟨dst, op, ty, pos, af, some (j, want)⟩ :: rest) Q ⟨σ, H, O, n⟩ :=
  aops_guard_yes rfl hj he hb k

theorem gn {j e : Nat} {want w' : Bool} (hj : gslot ops j = some e) (he : Nat.blt e N = true) (hb : lk σ e = .bool w') (hw : (!want) = w') (hd : Nat.blt d N = true)
    (k : aops P N n0 ops rest Q ⟨(d, .tup []) :: σ, H, O, n⟩) : aops P N n0 ops (⟨some d, op, ty, pos, af, some (j, want)⟩ :: rest) Q ⟨σ, H, O, n⟩ :=
  aops_guard_no rfl hj he (by rw [hb, hw]) hd k

theorem gn0 {j e : Nat} {want w' : Bool} (hj : gslot ops j = some e) (he : Nat.blt e N = true) (hb : lk σ e = .bool w') (hw : (!want) = w')
    (k : aops P N n0 ops rest Q ⟨σ, H, O, n⟩) : aops P N n0 ops (⟨none, op, ty, pos, af, some (j, want)⟩ :: rest) Q ⟨σ, H, O, n⟩ :=
  aops_guard_no rfl hj he (by rw [hb, hw]) rfl k

theorem gu {j e : Nat} {want : Bool} (hj : gslot ops j = some e) (he : Nat.blt e N = true) (hb : lk σ e = .tup []) (hd : Nat.blt d N = true)
    (k : aops P N n0 ops rest Q ⟨(d, .tup []) :: σ, H, O, n⟩) : aops P N n0 ops (⟨some d, op, ty, pos, af, some (j, want)⟩ :: rest) Q ⟨σ, H, O, n⟩ :=
  aops_guard_undef rfl hj he hb hd k

def nb : Bool → Option Bool
  | true => some false
  | false => some true

theorem nb_eq {b c : Bool} (h : nb b = some c) : (!b) = c := by cases b <;> simp [nb] at h <;> simp [h]

theorem gs {j e : Nat} {want w' b : Bool} (hj : gslot ops j = some e) (he : Nat.blt e N = true) (hb : lk σ e = .bool b) (hd : Nat.blt d N = true) (hw : nb want = some w')
    (yes : b = want → aops P N n0 ops (⟨some d, op, ty, pos, af, none⟩ :: rest) Q ⟨(e, .bool want) :: σ, H, O, n⟩)
    (no : b = w' → aops P N n0 ops rest Q ⟨(d, .tup []) :: (e, .bool w') :: σ, H, O, n⟩) :
    aops P N n0 ops (⟨some d, op, ty, pos, af, some (j, want)⟩ :: rest) Q ⟨σ, H, O, n⟩ :=
  by
  have e := nb_eq hw
  subst e
  exact aops_guard rfl hj he hb hd yes no

theorem ra [Tab P] {t : TypeId} {i : TI} {zs : List AV} (hd : Nat.blt d N = true) (ht : ti P t = some i) (hz : nfL i.zero some = some zs)
    (k : aops P N n0 ops rest Q ⟨(d, .ptr n 0) :: σ, allocH n 0 zs H, O, n + 1⟩) : aops P N n0 ops (⟨some d, .alloc t, ty, pos, af, none⟩ :: rest) Q ⟨σ, H, O, n⟩ := by
  rw [nfL_eq] at hz
  obtain rfl := Option.some.inj hz
  exact aops_alloc rfl rfl hd ht k

theorem rb [Tab P] {t : TypeId} {x : Operand} {cs : List AV} (hd : Nat.blt d N = true) (hc : nfOL (cellsv (ev σ x)) = some cs)
    (k : aops P N n0 ops rest Q ⟨(d, .ptr n 0) :: σ, allocH n 0 cs H, O, n + 1⟩) : aops P N n0 ops (⟨some d, .box t x, ty, pos, af, none⟩ :: rest) Q ⟨σ, H, O, n⟩ := by
  rw [nfOL_eq] at hc
  exact aops_box rfl rfl hd hc k

theorem rs [Tab P] {t : TypeId} {x y : Operand} {i : TI} {id off : Nat} {cs old : List AV} (ht : ti P t = some i) (hx : ev σ x = .ptr id off) (hc : nfOL (cellsv (ev σ y)) = some cs)
    (hsz : Nat.beq cs.length i.size = true) (h1 : cs.all AV.one = true) (hold : lkN H id off cs.length = some old) (hne : cs.isEmpty = false)
    (k : aops P N n0 ops rest Q ⟨σ, allocH id off cs H, O, n⟩) : aops P N n0 ops (⟨none, .store t x y, ty, pos, af, none⟩ :: rest) Q ⟨σ, H, O, n⟩ := by
  rw [nfOL_eq] at hc
  exact aops_store rfl rfl rfl ht hx hc hsz h1 hold hne k

theorem rc {fop : Operand} {args : Array Operand} {ats : Array TypeId} {f : FuncId} {caps : List AV} {K : AV → Prop} (hd : Nat.blt d N = true) (hf : ev σ fop = .fn f caps)
    (hc : limL 0 (args.toList.map (evs ⟨σ, H, O, n⟩) ++ caps) = true) (call : PCall P f (args.toList.map (evs ⟨σ, H, O, n⟩) ++ caps) K)
    (k : ∀ r, K r → aops P N n0 ops rest Q ⟨(d, r) :: σ, H, O, n⟩) : aops P N n0 ops (⟨some d, .call ⟨.value fop, args, ats⟩, ty, pos, af, none⟩ :: rest) Q ⟨σ, H, O, n⟩ :=
  aops_call rfl rfl hd hf hc call k

/-- A call of a function that answers one thing. -/
theorem rc1 {fop : Operand} {args : Array Operand} {ats : Array TypeId} {f : FuncId} {r : AV} (hd : Nat.blt d N = true) (hf : ev σ fop = .fn f [])
    (hc : limL 0 (args.toList.map (evs ⟨σ, H, O, n⟩)) = true) (call : PCall P f (args.toList.map (evs ⟨σ, H, O, n⟩)) (· = r))
    (k : aops P N n0 ops rest Q ⟨(d, r) :: σ, H, O, n⟩) : aops P N n0 ops (⟨some d, .call ⟨.value fop, args, ats⟩, ty, pos, af, none⟩ :: rest) Q ⟨σ, H, O, n⟩ :=
  aops_call (caps := []) rfl rfl hd hf (by rw [List.append_nil]; exact hc) (by rw [List.append_nil]; exact call) (fun _ e => by subst e; exact k)

theorem cs_ {c : Operand} {x y : Code} {b : Bool} (hc : ev σ c = .bool b) (ht : b = true → awp P N n0 x Q ⟨σ, H, O, n⟩) (hf : b = false → awp P N n0 y Q ⟨σ, H, O, n⟩) :
    awp P N n0 (.cond c x y) Q ⟨σ, H, O, n⟩ := awp_cond hc ht hf
theorem ct {c : Operand} {x y : Code} (hc : ev σ c = .bool true) (ht : awp P N n0 x Q ⟨σ, H, O, n⟩) : awp P N n0 (.cond c x y) Q ⟨σ, H, O, n⟩ :=
  awp_cond hc (fun _ => ht) (fun h => by cases h)
theorem cf {c : Operand} {x y : Code} (hc : ev σ c = .bool false) (hf : awp P N n0 y Q ⟨σ, H, O, n⟩) : awp P N n0 (.cond c x y) Q ⟨σ, H, O, n⟩ :=
  awp_cond hc (fun h => by cases h) (fun _ => hf)

end
end Go.Pv
