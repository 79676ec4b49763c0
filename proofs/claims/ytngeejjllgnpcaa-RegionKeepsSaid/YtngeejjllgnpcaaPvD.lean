/- Operations that change no memory: what each answers, reckoned on plain data. -/
import Derived.Test.YtngeejjllgnpcaaPvC
import Derived.WideLaws
namespace Go.Pv
set_option linter.unusedSimpArgs false
set_option linter.unusedSectionVars false
set_option linter.unusedVariables false

def isC : Operand → Bool
  | .const _ => true
  | _ => false

/-- How an error, or another value of an interface type, stands to another one. lit: one of them is the literal nil. -/
def eqI (P : Program) [Tab P] (lit : Bool) : AV → AV → Option Bool
  | .nilI, .nilI => if lit then some true else none
  | .nilI, .iface _ _ => some false
  | .iface _ _, .nilI => some false
  | .iface t x, .iface u y => if Nat.beq t u then (match ti P t with
      | some i => if i.cmp then (match i.k, x, y with
        | .int _, .int k a, .int k' b => if k = k' then some (a == b) else none
        | _, _, _ => none) else none
      | none => none) else some false
  | _, _ => none

def eqv (P : Program) [Tab P] (lit : Bool) (t : TypeId) (x y : AV) : Option Bool :=
  match ti P t with
  | none => none
  | some i => match i.k with
    | .iface _ => eqI P lit x y
    | .ptr _ => match x, y with
      | .nilp, .nilp => some true
      | .nilp, .ptr _ _ => some false
      | .ptr _ _, .nilp => some false
      | _, _ => none
    | .slice _ => match x, y with
      | .nilS, .nilS => some true
      | .sl (_ :: _), .nilS => some false
      | .nilS, .sl (_ :: _) => some false
      | _, _ => none
    | .fn => match x, y with
      | .nilF, .nilF => some true
      | .fn _ _, .nilF => some false
      | .nilF, .fn _ _ => some false
      | _, _ => none
    | .bool => match x with | .bool _ => eqC P 100 t x y | _ => none
    | .struct true _ => match x with | .agg _ => eqC P 100 t x y | _ => none
    | _ => none

def intv (op : BinOp) (k : IntKind) (a b : Int) : Option AV :=
  match op with
  | .add => some (.int k (k.wrap (a + b)))
  | .sub => some (.int k (k.wrap (a - b)))
  | .mul => some (.int k (k.wrap (a * b)))
  | .quo => if b = 0 then none else some (.int k (k.wrap (a.tdiv b)))
  | .rem => if b = 0 then none else some (.int k (a.tmod b))
  | .and => some (.int k (bits .and k a b))
  | .or => some (.int k (bits .or k a b))
  | .xor => some (.int k (bits .xor k a b))
  | .andNot => some (.int k (bits .andNot k a b))
  | .eql => some (.bool (a == b))
  | .neq => some (.bool (a != b))
  | .lss => some (.bool (decide (a < b)))
  | .leq => some (.bool (decide (a ≤ b)))
  | .gtr => some (.bool (decide (a > b)))
  | .geq => some (.bool (decide (a ≥ b)))
  | _ => none

def shv (op : BinOp) (k : IntKind) (a b : Int) : Option AV :=
  if b < 0 then none else match op with
  | .shl => some (.int k (k.wrap (a * 2 ^ min b.toNat k.bits)))
  | .shr => some (.int k (a.fdiv (2 ^ min b.toNat k.bits)))
  | _ => none

def strv (op : BinOp) (a b : ByteArray) : Option AV :=
  match op with
  | .eql => some (.bool (a.toList == b.toList))
  | .neq => some (.bool !(a.toList == b.toList))
  | .lss => some (.bool (Op.bytesLess a.toList b.toList))
  | .leq => some (.bool (Op.bytesLess a.toList b.toList || a.toList == b.toList))
  | .gtr => some (.bool !(Op.bytesLess a.toList b.toList || a.toList == b.toList))
  | .geq => some (.bool !(Op.bytesLess a.toList b.toList))
  | _ => none

def isSh : BinOp → Bool
  | .shl | .shr => true
  | _ => false

def binv (P : Program) [Tab P] (op : BinOp) (t : TypeId) (lit : Bool) (x y : AV) : Option AV :=
  match x, y with
  | .int k a, .int k' b => if isSh op then shv op k a b else if k = k' then intv op k a b else none
  | .str a, .str b => strv op a b
  | x, y => match op with
    | .eql => match eqv P lit t x y with | some r => some (.bool r) | none => none
    | .neq => match eqv P lit t x y with | some r => some (.bool !r) | none => none
    | _ => none

section
variable {P : Program} [Tab P] {w : World} {g : G}

theorem intv_sound {op : BinOp} {k : IntKind} {a b : Int} {r : AV} (hs : isSh op = false) (h : intv op k a b = some r) (t : TypeId) :
    ∃ u, (binOp op t (.int k a) (.int k b)).run P w = .ok u w ∧ Rep w g r u := by
  cases op <;> simp only [intv] at h <;> first | (simp [isSh] at hs; done) | (cases h; done) | skip
  case quo =>
    split at h
    · cases h
    · rename_i hb
      obtain rfl := Option.some.inj h
      exact ⟨.int k (k.wrap (a.tdiv b)), by simp [binOp, Op.intDiv, hb], rfl⟩
  case rem =>
    split at h
    · cases h
    · rename_i hb
      obtain rfl := Option.some.inj h
      exact ⟨.int k (a.tmod b), by simp [binOp, Op.intDiv, hb], rfl⟩
  all_goals obtain rfl := Option.some.inj h
  case add => exact ⟨.int k (k.wrap (a + b)), by simp [binOp, Op.intArith], rfl⟩
  case sub => exact ⟨.int k (k.wrap (a - b)), by simp [binOp, Op.intArith], rfl⟩
  case mul => exact ⟨.int k (k.wrap (a * b)), by simp [binOp, Op.intArith], rfl⟩
  case and => exact ⟨.int k (bits .and k a b), by simp [binOp, intBits_and], rfl⟩
  case or => exact ⟨.int k (bits .or k a b), by simp [binOp, intBits_or], rfl⟩
  case xor => exact ⟨.int k (bits .xor k a b), by simp [binOp, intBits_xor], rfl⟩
  case andNot => exact ⟨.int k (bits .andNot k a b), by simp [binOp, intBits_andNot], rfl⟩
  case eql => exact ⟨.bool (a == b), by simp [binOp, Op.intCmp], rfl⟩
  case neq => exact ⟨.bool (a != b), by simp [binOp, Op.intCmp], rfl⟩
  case lss => exact ⟨.bool (decide (a < b)), by simp [binOp, Op.intCmp], rfl⟩
  case leq => exact ⟨.bool (decide (a ≤ b)), by simp [binOp, Op.intCmp], rfl⟩
  case gtr => exact ⟨.bool (decide (a > b)), by simp [binOp, Op.intCmp], rfl⟩
  case geq => exact ⟨.bool (decide (a ≥ b)), by simp [binOp, Op.intCmp], rfl⟩

theorem shv_sound {op : BinOp} {k k' : IntKind} {a b : Int} {r : AV} (h : shv op k a b = some r) (t : TypeId) :
    ∃ u, (binOp op t (.int k a) (.int k' b)).run P w = .ok u w ∧ Rep w g r u := by
  unfold shv at h
  split at h
  · cases h
  · rename_i hb
    cases op <;> first | (cases h; done) | skip
    all_goals obtain rfl := Option.some.inj h
    case shl => exact ⟨.int k (k.wrap (a * 2 ^ min b.toNat k.bits)), by simp [binOp, Op.shift, hb], rfl⟩
    case shr => exact ⟨.int k (a.fdiv (2 ^ min b.toNat k.bits)), by simp [binOp, Op.shift, hb], rfl⟩

theorem strv_sound {op : BinOp} {a b : ByteArray} {r : AV} (h : strv op a b = some r) (t : TypeId) :
    ∃ u, (binOp op t (.string a) (.string b)).run P w = .ok u w ∧ Rep w g r u := by
  cases op <;> simp only [strv] at h <;> first | (cases h; done) | skip
  all_goals obtain rfl := Option.some.inj h
  case eql => exact ⟨.bool (a.toList == b.toList), by simp [binOp, Op.stringOp], rfl⟩
  case neq => exact ⟨.bool !(a.toList == b.toList), by simp [binOp, Op.stringOp], rfl⟩
  case lss => exact ⟨.bool (Op.bytesLess a.toList b.toList), by simp [binOp, Op.stringOp], rfl⟩
  case leq => exact ⟨.bool (Op.bytesLess a.toList b.toList || a.toList == b.toList), by simp [binOp, Op.stringOp], rfl⟩
  case gtr => exact ⟨.bool !(Op.bytesLess a.toList b.toList || a.toList == b.toList), by simp [binOp, Op.stringOp], rfl⟩
  case geq => exact ⟨.bool !(Op.bytesLess a.toList b.toList), by simp [binOp, Op.stringOp], rfl⟩

theorem eqI_sound {op : BinOp} {lit : Bool} {X Y : Operand} {t : TypeId} {ms : Array (String × TypeId)} (hl : lit = (isC X || isC Y)) {x y : AV} {u v : Value} {r : Bool}
    (hu : P.underlying t = some (.interface ms)) (h : eqI P lit x y = some r) (hx : Rep w g x u) (hy : Rep w g y v) :
    (eqGuard op t X Y u v).run P w = .ok () w ∧ (∀ n, (Op.equalIn (n + 2) t u v).run P w = .ok r w) ∧ (∀ k n, u ≠ .int k n) ∧ (∀ s, u ≠ .string s) ∧ (∀ k n, u ≠ .float k n) ∧ (∀ k n m, u ≠ .complex k n m) := by
  cases x <;> simp only [eqI] at h <;> first | (cases h; done) | skip
  case nilI =>
    obtain rfl : u = _ := hx
    cases y <;> simp only [eqI] at h <;> first | (cases h; done) | skip
    case nilI =>
      obtain rfl : v = _ := hy
      cases lit with
      | false => cases h
      | true =>
        simp only [if_true] at h
        obtain rfl := Option.some.inj h
        refine ⟨?_, fun n => by rw [Op.equalIn]; simp only [Sem.run_bind, run_underlying hu, Result.andThen_ok, Sem.run_pure], by simp, by simp, by simp, by simp⟩
        have hc : isC X = true ∨ isC Y = true := by simpa using hl.symm
        rcases hc with hc | hc
        · cases X with
          | const c => simp [eqGuard_nil_constL]
          | _ => simp [isC] at hc
        · cases Y with
          | const c => simp [eqGuard_nil_constR]
          | _ => simp [isC] at hc
    case iface t' y =>
      obtain ⟨z, rfl, _⟩ := hy
      obtain rfl := Option.some.inj h
      exact ⟨by simp [eqGuard_nil_iface], fun n => by rw [Op.equalIn]; simp only [Sem.run_bind, run_underlying hu, Result.andThen_ok, Sem.run_pure], by simp, by simp, by simp, by simp⟩
  case iface t' x =>
    obtain ⟨z, rfl, hz⟩ := hx
    cases y <;> simp only [eqI] at h <;> first | (cases h; done) | skip
    case nilI =>
      obtain rfl : v = _ := hy
      obtain rfl := Option.some.inj h
      exact ⟨by simp [eqGuard_at_iface], fun n => by rw [Op.equalIn]; simp only [Sem.run_bind, run_underlying hu, Result.andThen_ok, Sem.run_pure], by simp, by simp, by simp, by simp⟩
    case iface t'' y =>
      obtain ⟨z', rfl, hz'⟩ := hy
      refine ⟨by simp [eqGuard_at_iface], fun n => ?_, by simp, by simp, by simp, by simp⟩
      by_cases hb : Nat.beq t' t'' = true
      · rw [if_pos hb] at h
        simp only [Nat.beq_eq] at hb
        subst hb
        cases hi : ti P t' with
        | none => simp [hi] at h
        | some i =>
          simp only [hi] at h
          obtain ⟨inf, d, zz, ht⟩ := ti_tells hi
          split at h
          · rename_i hc
            split at h
            · rename_i hk
              split at h
              · rename_i hkk; subst hkk
                obtain rfl := Option.some.inj h
                obtain rfl : z = _ := hz
                obtain rfl : z' = _ := hz'
                have hcc : inf.comparable = true := by rw [← ht.cmp]; exact hc
                rw [Op.equalIn]
                simp only [Sem.run_bind, run_underlying hu, Result.andThen_ok, ne_eq, not_true_eq_false, if_false, ht.run_info, hcc, Bool.not_true, Bool.false_eq_true]
                exact run_equalIn_int w n t' _ _ _ _ (by rw [ht.und, ht.desc_int hk])
              · cases h
            · cases h
          · cases h
      · rw [if_neg hb] at h
        obtain rfl := Option.some.inj h
        have hne : t' ≠ t'' := fun e => hb (by simp [e])
        rw [Op.equalIn]
        simp only [Sem.run_bind, run_underlying hu, Result.andThen_ok, ne_eq, hne, not_false_eq_true, if_true, Sem.run_pure]

/-- A value that is no number and no text. -/
def odd : Value → Bool
  | .int _ _ | .float _ _ | .complex _ _ _ | .string _ => false
  | _ => true

theorem run_eql_odd {t : TypeId} {u v : Value} {r : Bool} (ho : odd u = true) (h : (Op.equal t u v).run P w = .ok r w) :
    (binOp .eql t u v).run P w = .ok (.bool r) w ∧ (binOp .neq t u v).run P w = .ok (.bool !r) w := by
  have e1 : binOp .eql t u v = (do pure (.bool (← Op.equal t u v)) : Sem Value) := by cases u <;> first | (simp [odd] at ho; done) | rfl
  have e2 : binOp .neq t u v = (do pure (.bool (!(← Op.equal t u v))) : Sem Value) := by cases u <;> first | (simp [odd] at ho; done) | rfl
  rw [e1, e2]
  simp [h]

theorem eqC_agg {n : Nat} {t : TypeId} {xs : List AV} {y : AV} {r : Bool} (h : eqC P (n + 1) t (.agg xs) y = some r) : ∃ ys, y = .agg ys := by
  simp only [eqC] at h
  cases hi : ti P t with
  | none => simp [hi] at h
  | some i =>
    simp only [hi] at h
    split at h <;> first | (cases h; done) | skip
    all_goals first
      | (rename_i hk he; cases he; done)
      | exact ⟨_, rfl⟩
      | simp_all

theorem eqv_sound {op : BinOp} {lit : Bool} {X Y : Operand} {t : TypeId} (hl : lit = (isC X || isC Y)) {x y : AV} {u v : Value} {r : Bool}
    (h : eqv P lit t x y = some r) (hx : Rep w g x u) (hy : Rep w g y v) :
    (eqGuard op t X Y u v).run P w = .ok () w ∧ (Op.equal t u v).run P w = .ok r w ∧ odd u = true := by
  unfold eqv at h
  cases hi : ti P t with
  | none => simp [hi] at h
  | some i =>
    simp only [hi] at h
    obtain ⟨inf, d, zz, ht⟩ := ti_tells hi
    split at h
    · rename_i hk
      obtain ⟨ms, hd, _⟩ := ht.desc_iface hk
      obtain ⟨h1, h2, h3, h4, h5, h6⟩ := eqI_sound (op := op) hl (by rw [ht.und, hd]) h hx hy
      exact ⟨h1, h2 9998, by cases u <;> first | rfl | (exact absurd rfl (h3 _ _)) | (exact absurd rfl (h4 _)) | (exact absurd rfl (h5 _ _)) | (exact absurd rfl (h6 _ _ _))⟩
    · rename_i hk
      have hd := ht.desc_ptr hk
      subst hd
      split at h <;> first | (cases h; done) | skip
      · obtain rfl := Option.some.inj h; obtain rfl : u = _ := hx; obtain rfl : v = _ := hy
        exact ⟨by simp [eqGuard_at_pointer], by simp only [Op.equal, Op.maxDepth]; rw [Op.equalIn]; simp only [Sem.run_bind, run_underlying ht.und, Result.andThen_ok, Sem.run_pure, Option.isNone], rfl⟩
      · obtain rfl := Option.some.inj h; obtain rfl : u = _ := hx; obtain ⟨b, _, rfl⟩ := hy
        exact ⟨by simp [eqGuard_at_pointer], by simp only [Op.equal, Op.maxDepth]; rw [Op.equalIn]; simp only [Sem.run_bind, run_underlying ht.und, Result.andThen_ok, Sem.run_pure, Option.isNone], rfl⟩
      · obtain rfl := Option.some.inj h; obtain ⟨b, _, rfl⟩ := hx; obtain rfl : v = _ := hy
        exact ⟨by simp [eqGuard_at_pointer], by simp only [Op.equal, Op.maxDepth]; rw [Op.equalIn]; simp only [Sem.run_bind, run_underlying ht.und, Result.andThen_ok, Sem.run_pure], rfl⟩
    · rename_i hk
      have hd := ht.desc_slice hk
      subst hd
      split at h <;> first | (cases h; done) | skip
      · obtain rfl := Option.some.inj h; obtain rfl : u = _ := hx; obtain rfl : v = _ := hy
        exact ⟨by simp [eqGuard_at_slice], by simp only [Op.equal, Op.maxDepth]; rw [Op.equalIn]; simp only [Sem.run_bind, run_underlying ht.und, Result.andThen_ok, Sem.run_pure, Option.isNone], rfl⟩
      · obtain rfl := Option.some.inj h; obtain ⟨a, cap, rfl, _, hn, _⟩ := hx; obtain rfl : v = _ := hy
        cases a with
        | none => exact absurd (hn rfl) (by simp)
        | some ad => exact ⟨by simp [eqGuard_at_slice], by simp only [Op.equal, Op.maxDepth]; rw [Op.equalIn]; simp only [Sem.run_bind, run_underlying ht.und, Result.andThen_ok, Sem.run_pure], rfl⟩
      · obtain rfl := Option.some.inj h; obtain rfl : u = _ := hx; obtain ⟨a, cap, rfl, _, hn, _⟩ := hy
        cases a with
        | none => exact absurd (hn rfl) (by simp)
        | some ad => exact ⟨by simp [eqGuard_at_slice], by simp only [Op.equal, Op.maxDepth]; rw [Op.equalIn]; simp only [Sem.run_bind, run_underlying ht.und, Result.andThen_ok, Sem.run_pure, Option.isNone], rfl⟩
    · rename_i hk
      obtain ⟨a, b, c, hd⟩ := ht.desc_fn hk
      subst hd
      split at h <;> first | (cases h; done) | skip
      · obtain rfl := Option.some.inj h; obtain rfl : u = _ := hx; obtain rfl : v = _ := hy
        exact ⟨by simp [eqGuard_at_nilFunc], by simp only [Op.equal, Op.maxDepth]; rw [Op.equalIn]; simp only [Sem.run_bind, run_underlying ht.und, Result.andThen_ok, Sem.run_pure], rfl⟩
      · obtain rfl := Option.some.inj h; obtain ⟨_, rfl, _⟩ := hx; obtain rfl : v = _ := hy
        exact ⟨by simp [eqGuard_at_func], by simp only [Op.equal, Op.maxDepth]; rw [Op.equalIn]; simp only [Sem.run_bind, run_underlying ht.und, Result.andThen_ok, Sem.run_pure], rfl⟩
      · obtain rfl := Option.some.inj h; obtain rfl : u = _ := hx; obtain ⟨_, rfl, _⟩ := hy
        exact ⟨by simp [eqGuard_at_nilFunc], by simp only [Op.equal, Op.maxDepth]; rw [Op.equalIn]; simp only [Sem.run_bind, run_underlying ht.und, Result.andThen_ok, Sem.run_pure], rfl⟩
    · rename_i hk
      split at h
      · obtain rfl : u = _ := hx
        exact ⟨by simp [eqGuard_at_bool], eqC_sound 100 t _ _ _ _ r h rfl hy 10000 (by omega), rfl⟩
      · cases h
    · rename_i fs hk
      split at h
      · have hh := eqC_sound (w := w) (g := g) 100 t _ _ _ _ r h hx hy 10000 (by omega)
        obtain ⟨us, rfl, hus⟩ := hx
        refine ⟨?_, hh, rfl⟩
        obtain ⟨fl, hd, hfs, hq⟩ := ht.desc_struct hk
        replace hq := hq.symm
        simp only [Bool.and_eq_true, Bool.not_eq_true'] at hq
        obtain ⟨ys, rfl⟩ := eqC_agg (n := 99) h
        obtain ⟨vs, rfl, _⟩ := hy
        exact run_eqGuard_agg w op t X Y _ _ hq.1.2
      · cases h
    · cases h

theorem binv_sound {op : BinOp} {t : TypeId} {X Y : Operand} {x y r : AV} {u v : Value} (h : binv P op t (isC X || isC Y) x y = some r) (hx : Rep w g x u) (hy : Rep w g y v) :
    ∃ q, (do eqGuard op t X Y u v; binOp op t u v : Sem Value).run P w = .ok q w ∧ Rep w g r q := by
  unfold binv at h
  split at h
  · obtain rfl : u = _ := hx
    obtain rfl : v = _ := hy
    split at h
    · obtain ⟨q, hq, hr⟩ := shv_sound (P := P) (w := w) (g := g) (k' := ‹_›) h t
      exact ⟨q, by simp [eqGuard_at_int, hq], hr⟩
    · rename_i hs
      split at h
      · rename_i hk; subst hk
        obtain ⟨q, hq, hr⟩ := intv_sound (P := P) (w := w) (g := g) (by simpa using hs) h t
        exact ⟨q, by simp [eqGuard_at_int, hq], hr⟩
      · cases h
  · obtain rfl : u = _ := hx
    obtain rfl : v = _ := hy
    obtain ⟨q, hq, hr⟩ := strv_sound (P := P) (w := w) (g := g) h t
    exact ⟨q, by simp [eqGuard_at_string, hq], hr⟩
  · split at h
    · cases he : eqv P (isC X || isC Y) t x y with
      | none => simp [he] at h
      | some b =>
        simp only [he] at h
        obtain rfl := Option.some.inj h
        obtain ⟨h1, h2, h3⟩ := eqv_sound (op := .eql) rfl he hx hy
        exact ⟨.bool b, by simp only [Sem.run_bind, h1, Result.andThen_ok, (run_eql_odd h3 h2).1], rfl⟩
    · cases he : eqv P (isC X || isC Y) t x y with
      | none => simp [he] at h
      | some b =>
        simp only [he] at h
        obtain rfl := Option.some.inj h
        obtain ⟨h1, h2, h3⟩ := eqv_sound (op := .neq) rfl he hx hy
        exact ⟨.bool !b, by simp only [Sem.run_bind, h1, Result.andThen_ok, (run_eql_odd h3 h2).2], rfl⟩
    · cases h

end
end Go.Pv
