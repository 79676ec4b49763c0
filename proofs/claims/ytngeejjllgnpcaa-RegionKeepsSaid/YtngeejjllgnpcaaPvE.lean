/- One operation that changes no memory: its answer, reckoned on plain data, is the machine's. -/
import Derived.Test.YtngeejjllgnpcaaPvD
namespace Go.Pv
set_option linter.unusedSimpArgs false
set_option linter.unusedSectionVars false
set_option linter.unusedVariables false

def cellsv : AV → Option (List AV)
  | .agg cs => some cs
  | .any => none
  | .tup _ => none
  | .raw v => if v.oneCell' then some [.raw v] else none
  | v => some [v]

def setL (cs : List AV) (off : Nat) : List AV → List AV
  | [] => cs
  | v :: r => setL (cs.set off v) (off + 1) r

def fillv (P : Program) [Tab P] (fs : List (Nat × TypeId)) (cs : List AV) : List (Nat × AV) → Option (List AV)
  | [] => some cs
  | (i, v) :: r => match fs[i]? with
    | none => none
    | some (off, t) => match ti P t, cellsv v with
      | some j, some vs => if Nat.beq vs.length j.size && Nat.ble (off + vs.length) cs.length then fillv P fs (setL cs off vs) r else none
      | _, _ => none

def unv (op : UnOp) : AV → Option AV
  | .int k n => match op with
    | .neg => some (.int k (k.wrap (0 - n)))
    | .xor => some (.int k (bits .xor k (if k.signed then -1 else k.max) n))
    | _ => none
  | .bool b => match op with
    | .not => some (.bool !b)
    | _ => none
  | _ => none

def convv (P : Program) [Tab P] (src dst : TypeId) (x : AV) : Option AV :=
  match ti P src, ti P dst with
  | some i, some j => match i.k, j.k, x with
    | .int _, .int k, .int _ n => some (.int k (k.wrap n))
    | .str, .str, .str s => some (.str s)
    | _, _, _ => none
  | _, _ => none

def fieldAddrv (P : Program) [Tab P] (t : TypeId) (x : AV) (f : Nat) : Option AV :=
  match ti P t with
  | none => none
  | some i => match i.k with
    | .struct _ fs => match fs[f]? with
      | none => none
      | some (off, u) => match ti P u with
        | none => none
        | some j => if Nat.beq j.size 0 then none else match x with
          | .ptr id o => some (.ptr id (o + off))
          | .rd cs => some (.rd (cs.drop off))
          | .eptr id r c => some (.eptr id r (c + off))
          | _ => none
    | _ => none

def fieldv (P : Program) [Tab P] (t : TypeId) (x : AV) (f : Nat) : Option AV :=
  match ti P t with
  | none => none
  | some i => match i.k with
    | .struct _ fs => match fs[f]? with
      | none => none
      | some (off, u) => match ti P u, x with
        | some j, .agg cs => partv j cs off
        | _, _ => none
    | _ => none

def lenv : AV → Option AV
  | .str s => some (.int .i64 s.size)
  | .sl xs => some (.int .i64 xs.length)
  | _ => none

def builtinv (P : Program) [Tab P] (b : Builtin) (ats : Array TypeId) (xs : List AV) : Option AV :=
  match b, xs with
  | .len, [x] => match ats[0]? with
    | some t => match ti P t with
      | some i => match i.k, x with
        | .str, .str s => some (.int .i64 s.size)
        | .slice _, .sl l => some (.int .i64 l.length)
        | _, _ => none
      | none => none
    | none => none
  | .min, [.int k x, .int k' y] => if k = k' then some (.int k (if y < x then y else x)) else none
  | .max, [.int k x, .int k' y] => if k = k' then some (.int k (if y > x then y else x)) else none
  | _, _ => none

/-- What an operation that changes no memory answers. -/
def opv (P : Program) [Tab P] (s : St) : Op → Option AV
  | .move x | .assign x => some (ev s.σ x)
  | .pick c a b => match ev s.σ c with
    | .bool true => some (ev s.σ a)
    | .bool false => some (ev s.σ b)
    | _ => none
  | .load t x => match ti P t with
    | some i => loadv s.H i (ev s.σ x)
    | none => none
  | .nilCheck x => match ev s.σ x with
    | .ptr i o => some (.ptr i o)
    | .rd c => some (.rd c)
    | .eptr i r c => some (.eptr i r c)
    | .fn f c => some (.fn f c)
    | _ => none
  | .binOp op t x y _ => binv P op t (isC x || isC y) (evs s x) (evs s y)
  | .unOp op _ x => unv op (ev s.σ x)
  | .convert src dst x => convv P src dst (ev s.σ x)
  | .makeInterface t x => match ti P t with
    | some i => match i.k with
      | .iface _ => none
      | .bad => none
      | _ => some (.iface t (evs s x))
    | none => none
  | .makeFunc (.func f) first captured => match first.toList with
    | [] => some (.fn f (captured.toList.map (ev s.σ)))
    | _ => none
  | .fieldAddr t x f => fieldAddrv P t (ev s.σ x) f
  | .field t x f => fieldv P t (ev s.σ x) f
  | .extract x i => match ev s.σ x with
    | .tup vs => vs[i]?
    | _ => none
  | .build t parts => match ti P t with
    | some i => match i.k with
      | .struct _ fs => if fs.all (fun p => (ti P p.2).isSome) = false then none else match fillv P fs i.zero (parts.toList.map fun p => (p.1, ev s.σ p.2)) with
        | some cs => some (.agg cs)
        | none => none
      | _ => none
    | none => none
  | .call ⟨.builtin b, args, ats⟩ => builtinv P b ats (args.toList.map (evs s))
  | _ => none

section
variable {P : Program} [Tab P] {w : World} {g : G}

theorem cells_one {v : Value} (h : v.oneCell' = true) : v.cells.toList = [v] := by cases v <;> first | rfl | (simp [Value.oneCell'] at h; done)

theorem cellsv_sound {x : AV} {cs : List AV} {v : Value} (h : cellsv x = some cs) (hx : Rep w g x v) (hs : ∀ id v, g.own id = some v → v.oneCell' = true) : RepL w g cs v.cells.toList := by
  cases x <;> simp only [cellsv] at h <;> first | (cases h; done) | skip
  case agg ys =>
    obtain rfl := Option.some.inj h
    obtain ⟨vs, rfl, hv⟩ := hx
    simpa [Value.cells] using hv
  case raw u =>
    split at h
    · rename_i h1
      obtain rfl := Option.some.inj h
      obtain rfl : v = _ := hx
      rw [cells_one h1]
      exact ⟨_, [], rfl, rfl, rfl⟩
    · cases h
  all_goals
    obtain rfl := Option.some.inj h
  case bool b => obtain rfl : v = _ := hx; exact ⟨_, [], rfl, rfl, rfl⟩
  case int k n => obtain rfl : v = _ := hx; exact ⟨_, [], rfl, rfl, rfl⟩
  case str k => obtain rfl : v = _ := hx; exact ⟨_, [], rfl, rfl, rfl⟩
  case nilp => obtain rfl : v = _ := hx; exact ⟨_, [], rfl, rfl, rfl⟩
  case nilS => obtain rfl : v = _ := hx; exact ⟨_, [], rfl, rfl, rfl⟩
  case nilM => obtain rfl : v = _ := hx; exact ⟨_, [], rfl, rfl, rfl⟩
  case ptr id off => obtain ⟨b, hb, rfl⟩ := hx; exact ⟨_, [], rfl, ⟨b, hb, rfl⟩, rfl⟩
  case rd c => obtain ⟨b, o, rfl, hr⟩ := hx; exact ⟨_, [], rfl, ⟨b, o, rfl, hr⟩, rfl⟩
  case sl c => obtain ⟨a, cap, rfl, hr⟩ := hx; exact ⟨_, [], rfl, ⟨a, cap, rfl, hr⟩, rfl⟩
  case nilI => obtain rfl : v = _ := hx; exact ⟨_, [], rfl, rfl, rfl⟩
  case iface t y => obtain ⟨z, rfl, hr⟩ := hx; exact ⟨_, [], rfl, ⟨z, rfl, hr⟩, rfl⟩
  case nilF => obtain rfl : v = _ := hx; exact ⟨_, [], rfl, rfl, rfl⟩
  case fn f c => obtain ⟨vs, rfl, hr⟩ := hx; exact ⟨_, [], rfl, ⟨vs, rfl, hr⟩, rfl⟩
  case eptr id r c => obtain ⟨ad, l, cap, e, rfl⟩ := hx; exact ⟨_, [], rfl, ⟨ad, l, cap, e, rfl⟩, rfl⟩
  case own id =>
    rw [cells_one (hs id v hx)]
    exact ⟨_, [], rfl, hx, rfl⟩

theorem foldl_set (off : Nat) : ∀ (vs : List (Value × Nat)) (cs : Array Value),
    (vs.foldl (fun (cs : Array Value) (p : Value × Nat) => cs.setIfInBounds (off + p.2) p.1) cs).toList = vs.foldl (fun (l : List Value) (p : Value × Nat) => l.set (off + p.2) p.1) cs.toList := by
  intro vs
  induction vs with
  | nil => intro cs; rfl
  | cons v vs ih => intro cs; simp only [List.foldl_cons]; rw [ih]; simp

theorem setL_sound : ∀ {xs : List AV} {vs : List Value} {off k : Nat} {cs : List AV} {us : List Value}, RepL w g cs us → RepL w g xs vs →
    RepL w g (setL cs (off + k) xs) ((vs.zipIdx k).foldl (fun (l : List Value) (p : Value × Nat) => l.set (off + p.2) p.1) us)
  | [], _, _, _, _, _, hc, hx => by simp [RepL] at hx; subst hx; simpa [setL] using hc
  | x :: xs, _, off, k, cs, us, hc, ⟨v, vs', e, r, rest⟩ => by
    subst e
    simp only [List.zipIdx_cons, List.foldl_cons, setL]
    exact setL_sound (off := off) (k := k + 1) (cs := cs.set (off + k) x) (us := us.set (off + k) v) (RepL.set hc r) rest

theorem setL_length : ∀ (xs : List AV) (cs : List AV) (off : Nat), (setL cs off xs).length = cs.length
  | [], _, _ => rfl
  | _ :: xs, cs, off => by simp [setL, setL_length xs]

theorem fillv_sound (hs : ∀ id v, g.own id = some v → v.oneCell' = true) {fl : Array Field} {places : Nat → Option (Nat × Nat)}
    (hp : ∀ i off t j, (fl.toList.map fun f => (f.offset, f.type))[i]? = some (off, t) → ti P t = some j → places i = some (off, j.size)) :
    ∀ {parts : List (Nat × AV)} {vals : List (Nat × Value)} {cs : List AV} {us : Array Value} {r : List AV}, parts.length = vals.length →
      (∀ (i : Nat) (p : Nat × AV) (q : Nat × Value), parts[i]? = some p → vals[i]? = some q → p.1 = q.1 ∧ Rep w g p.2 q.2) → RepL w g cs us.toList →
      fillv P (fl.toList.map fun f => (f.offset, f.type)) cs parts = some r → ∃ rs, Instr.fill places us vals = some rs ∧ RepL w g r rs.toList
  | [], vals, cs, us, r, hl, _, hc, h => by
    have : vals = [] := by simpa using hl.symm
    subst this
    simp only [fillv] at h
    obtain rfl := Option.some.inj h
    exact ⟨us, rfl, hc⟩
  | (i, v) :: parts, [], _, _, _, hl, _, _, _ => by simp at hl
  | (i, v) :: parts, (i', u) :: vals, cs, us, r, hl, hv, hc, h => by
    obtain ⟨rfl, hr⟩ := hv 0 _ _ rfl rfl
    simp only [fillv] at h
    cases hi : (fl.toList.map fun f => (f.offset, f.type))[i]? with
    | none => simp [hi] at h
    | some q =>
      obtain ⟨off, t⟩ := q
      simp only [hi] at h
      cases hj : ti P t with
      | none => simp [hj] at h
      | some j =>
        cases hcv : cellsv v with
        | none => simp [hj, hcv] at h
        | some vs =>
          simp only [hj, hcv] at h
          split at h
          · rename_i hb
            simp only [Bool.and_eq_true, Nat.beq_eq, Nat.ble_eq] at hb
            have hcells := cellsv_sound hcv hr hs
            have hlen : u.cells.size = vs.length := by have := hcells.length; simpa using this
            have hus : us.size = cs.length := by have := hc.length; simpa using this
            obtain ⟨rs, h1, h2⟩ := fillv_sound hs hp (parts := parts) (vals := vals) (cs := setL cs off vs)
              (us := u.cells.zipIdx.foldl (fun (cs : Array Value) (p : Value × Nat) => cs.setIfInBounds (off + p.2) p.1) us) (r := r) (by simpa using hl)
              (fun k p q h1 h2 => hv (k + 1) p q (by simpa using h1) (by simpa using h2)) (by
                have := setL_sound (off := off) (k := 0) (cs := cs) (us := us.toList) hc hcells
                rw [← Array.foldl_toList, Array.toList_zipIdx, foldl_set]
                simpa using this) h
            refine ⟨rs, ?_, h2⟩
            simp only [Instr.fill, hp i off t j hi hj, hlen, hb.1, ne_eq, not_true_eq_false, decide_false, Bool.false_or]
            rw [if_neg (by simp; omega)]
            exact h1
          · cases h

theorem map_toArray {α β : Type} (f : α → β) (xs : Array α) : xs.map f = (xs.toList.map f).toArray := by cases xs; simp

theorem run_mapM {α β : Type} {f : α → Sem β} {k : α → β} : ∀ (l : List α), (∀ x ∈ l, (f x).run P w = .ok (k x) w) → (l.mapM f).run P w = .ok (l.map k) w
  | [], _ => rfl
  | x :: l, h => by
    simp only [List.mapM_cons, Sem.run_bind, h x (by simp), Result.andThen_ok, run_mapM l (fun y hy => h y (by simp [hy])), Sem.run_pure, List.map_cons]

theorem run_valueW {x : Sem Value} {u : Value} {w' : World} (h : x.run P w = .ok u w') : (do pure (.value (← x)) : Sem Next).run P w = .ok (.value u) w' := by simp [h]

theorem run_value {x : Sem Value} {u : Value} (h : x.run P w = .ok u w) : (do pure (.value (← x)) : Sem Next).run P w = .ok (.value u) w := by simp [h]

theorem convv_sound {src dst : TypeId} {x r : AV} {v : Value} (h : convv P src dst x = some r) (hx : Rep w g x v) : ∃ u, (convert src dst v).run P w = .ok u w ∧ Rep w g r u := by
  unfold convv at h
  cases hi : ti P src with
  | none => simp [hi] at h
  | some i =>
    cases hj : ti P dst with
    | none => simp [hi, hj] at h
    | some j =>
      simp only [hi, hj] at h
      obtain ⟨_, _, _, h1⟩ := ti_tells hi
      obtain ⟨_, _, _, h2⟩ := ti_tells hj
      split at h <;> first | (cases h; done) | skip
      · rename_i hk1 hk2
        obtain rfl := Option.some.inj h
        obtain rfl : v = _ := hx
        have e1 := h1.desc_int hk1
        have e2 := h2.desc_int hk2
        subst e1; subst e2
        exact ⟨_, by simp only [convert, Sem.run_bind, h1.run_und, h2.run_und, Result.andThen_ok, Conv.intToInt]; rfl, rfl⟩
      · rename_i hk1 hk2
        obtain rfl := Option.some.inj h
        obtain rfl : v = _ := hx
        have e1 := h1.desc_str hk1
        have e2 := h2.desc_str hk2
        subst e1; subst e2
        exact ⟨_, by simp only [convert, Sem.run_bind, h1.run_und, h2.run_und, Result.andThen_ok]; rfl, rfl⟩

theorem fieldAddrv_sound {t : TypeId} {f : Nat} {x r : AV} {v : Value} (h : fieldAddrv P t x f = some r) (hx : Rep w g x v) : ∃ u, (Instr.fieldAt t v f).run P w = .ok u w ∧ Rep w g r u := by
  unfold fieldAddrv at h
  cases hi : ti P t with
  | none => simp [hi] at h
  | some i =>
    simp only [hi] at h
    obtain ⟨_, _, _, h1⟩ := ti_tells hi
    split at h
    · rename_i q fs hk
      obtain ⟨fl, hd, hfs, _⟩ := h1.desc_struct hk
      subst hd
      cases hf : fs[f]? with
      | none => simp [hf] at h
      | some p =>
        obtain ⟨off, u⟩ := p
        simp only [hf] at h
        cases hj : ti P u with
        | none => simp [hj] at h
        | some j =>
          simp only [hj] at h
          obtain ⟨_, _, _, h2⟩ := ti_tells hj
          split at h
          · cases h
          · rename_i hz
            have hz' : j.size ≠ 0 := fun e => hz (by simp [e])
            rw [hfs] at hf
            simp only [List.getElem?_map, Option.map_eq_some_iff, Prod.mk.injEq] at hf
            obtain ⟨q, hq, rfl, rfl⟩ := hf
            have hq' : fl[f]? = some q := by simpa using hq
            split at h
            · obtain rfl := Option.some.inj h
              obtain ⟨b, hb, rfl⟩ := hx
              exact ⟨.pointer (some ⟨b, _ + q.offset, none⟩), by simp [Instr.fieldAt, h1.run_und, hq', Instr.sureAddr, fieldPlace, h2.run_size, hz', addr_add], b, hb, rfl⟩
            · obtain rfl := Option.some.inj h
              obtain ⟨b, o, rfl, hr⟩ := hx
              exact ⟨.pointer (some ⟨b, o + q.offset, none⟩), by simp [Instr.fieldAt, h1.run_und, hq', Instr.sureAddr, fieldPlace, h2.run_size, hz', addr_add], b, _, rfl, RepAt.drop _ hr⟩
            · obtain rfl := Option.some.inj h
              rename_i id r c
              obtain ⟨ad, l, cap, e, rfl⟩ := hx
              exact ⟨.pointer (some ⟨ad.block, ad.off + r * g.wd id + (c + q.offset), none⟩), by simp [Instr.fieldAt, h1.run_und, hq', Instr.sureAddr, fieldPlace, h2.run_size, hz', addr_add, Nat.add_assoc], ad, l, cap, e, rfl⟩
            · cases h
    · cases h

theorem fieldv_sound {t : TypeId} {f : Nat} {x r : AV} {v : Value} (h : fieldv P t x f = some r) (hx : Rep w g x v) : ∃ u, (Instr.field t v f).run P w = .ok u w ∧ Rep w g r u := by
  unfold fieldv at h
  cases hi : ti P t with
  | none => simp [hi] at h
  | some i =>
    simp only [hi] at h
    obtain ⟨_, _, _, h1⟩ := ti_tells hi
    split at h
    · rename_i q fs hk
      obtain ⟨fl, hd, hfs, _⟩ := h1.desc_struct hk
      subst hd
      cases hf : fs[f]? with
      | none => simp [hf] at h
      | some p =>
        obtain ⟨off, u⟩ := p
        simp only [hf] at h
        rw [hfs] at hf
        simp only [List.getElem?_map, Option.map_eq_some_iff, Prod.mk.injEq] at hf
        obtain ⟨q, hq, rfl, rfl⟩ := hf
        have hq' : fl[f]? = some q := by simpa using hq
        split at h
        · rename_i j cs hj
          obtain ⟨_, _, _, h2⟩ := ti_tells hj
          obtain ⟨vs, rfl, hvs⟩ := hx
          obtain ⟨y, hy, hr⟩ := partv_sound (w := w) (g := g) h2 hvs h
          exact ⟨y, by simp [Instr.field, h1.run_und, hq', asAgg, hy], hr⟩
        · cases h
    · cases h

theorem builtinv_sound {b : Builtin} {ats : Array TypeId} {t : TypeId} {cs : Array Bool} {xs : List AV} {vs : List Value} {r : AV} (h : builtinv P b ats xs = some r) (hx : RepL w g xs vs) :
    ∃ u, (builtin b ats t cs vs.toArray).run P w = .ok (.value u) w ∧ Rep w g r u := by
  unfold builtinv at h
  split at h
  · obtain ⟨v, _, rfl, hv, rfl⟩ := hx
    cases h0 : ats[0]? with
    | none => simp [h0] at h
    | some t0 =>
      simp only [h0] at h
      cases hi : ti P t0 with
      | none => simp [hi] at h
      | some i =>
        simp only [hi] at h
        obtain ⟨_, _, _, h1⟩ := ti_tells hi
        split at h
        · rename_i hk
          obtain rfl := Option.some.inj h
          obtain rfl : v = _ := hv
          have e := h1.desc_str hk
          subst e
          exact ⟨_, by simp only [builtin]; refine run_value (u := .int .i64 _) ?_; simp [Builtin.len_, h0, h1.run_und, goInt], rfl⟩
        · rename_i hk
          obtain rfl := Option.some.inj h
          obtain ⟨a, cap, rfl, _⟩ := hv
          have e := h1.desc_slice hk
          subst e
          exact ⟨_, by simp only [builtin]; refine run_value (u := .int .i64 _) ?_; simp [Builtin.len_, h0, h1.run_und, goInt], rfl⟩
        · cases h
  · obtain ⟨v, _, rfl, hv, u, _, rfl, hu, rfl⟩ := hx
    obtain rfl : v = _ := hv
    obtain rfl : u = _ := hu
    split at h
    · rename_i hk; subst hk
      obtain rfl := Option.some.inj h
      exact ⟨_, by simp only [builtin]; refine run_value (u := .int _ _) ?_; simp [Builtin.min_, Builtin.min2], rfl⟩
    · cases h
  · obtain ⟨v, _, rfl, hv, u, _, rfl, hu, rfl⟩ := hx
    obtain rfl : v = _ := hv
    obtain rfl : u = _ := hu
    split at h
    · rename_i hk; subst hk
      obtain rfl := Option.some.inj h
      exact ⟨_, by simp only [builtin]; refine run_value (u := .int _ _) ?_; simp [Builtin.max_, Builtin.max2], rfl⟩
    · cases h
  · cases h

theorem repL_map {N n0 : Nat} {w0 : World} {g0 : G} {s : St} {a : Act} (hi : Inv N n0 w0 g0 s a w g) : ∀ l : List Operand, RepL w g (l.map (evs s)) (l.map a.eval)
  | [] => rfl
  | x :: l => ⟨_, _, rfl, rep_evs hi x, repL_map hi l⟩

theorem repL_map' {N n0 : Nat} {w0 : World} {g0 : G} {s : St} {a : Act} (hi : Inv N n0 w0 g0 s a w g) : ∀ l : List Operand, RepL w g (l.map (ev s.σ)) (l.map a.eval)
  | [] => rfl
  | x :: l => ⟨_, _, rfl, rep_ev hi.slots x, repL_map' hi l⟩

theorem opv_sound {N n0 : Nat} {w0 : World} {g0 : G} {s : St} {a : Act} (hi : Inv N n0 w0 g0 s a w g) {o : Oper} {r : AV} (h : opv P s o.op = some r) :
    ∃ u, (execOp a.eval o).run P w = .ok (.value u) w ∧ Rep w g r u := by
  obtain ⟨dst, op, type, pos, after, guard⟩ := o
  cases op <;> simp only [opv] at h <;> first | (cases h; done) | skip
  case move x =>
    obtain rfl := Option.some.inj h
    exact ⟨_, rfl, rep_ev hi.slots x⟩
  case assign x =>
    obtain rfl := Option.some.inj h
    exact ⟨_, rfl, rep_ev hi.slots x⟩
  case pick c x y =>
    have hc := rep_ev hi.slots c
    split at h
    · rename_i e; rw [e] at hc
      obtain rfl := Option.some.inj h
      have hc' : a.eval c = .bool true := hc
      exact ⟨_, by simp [execOp, hc', asBool], rep_ev hi.slots x⟩
    · rename_i e; rw [e] at hc
      obtain rfl := Option.some.inj h
      have hc' : a.eval c = .bool false := hc
      exact ⟨_, by simp [execOp, hc', asBool], rep_ev hi.slots y⟩
    · cases h
  case load t x =>
    cases hj : ti P t with
    | none => simp [hj] at h
    | some j =>
      simp only [hj] at h
      obtain ⟨_, _, _, h1⟩ := ti_tells hj
      obtain ⟨u, hu, hr⟩ := loadv_sound h1 hi.cells (rep_ev hi.slots x) h
      exact ⟨u, run_value hu, hr⟩
  case nilCheck x =>
    have hx := rep_ev hi.slots x
    split at h <;> first | (cases h; done) | skip
    · rename_i e; rw [e] at hx
      obtain rfl := Option.some.inj h
      obtain ⟨b, hb, he⟩ := hx
      exact ⟨_, by simp [execOp, he], b, hb, rfl⟩
    · rename_i e; rw [e] at hx
      obtain rfl := Option.some.inj h
      obtain ⟨b, o, he, hr⟩ := hx
      exact ⟨_, by simp [execOp, he], b, o, rfl, hr⟩
    · rename_i e; rw [e] at hx
      obtain rfl := Option.some.inj h
      obtain ⟨ad, l, cap, e, he⟩ := hx
      exact ⟨_, by simp [execOp, he], ad, l, cap, e, rfl⟩
    · rename_i e; rw [e] at hx
      obtain rfl := Option.some.inj h
      obtain ⟨vs, he, hr⟩ := hx
      exact ⟨_, by simp [execOp, he], vs, rfl, hr⟩
  case binOp op t x y yt =>
    obtain ⟨q, hq, hr⟩ := binv_sound h (rep_evs hi x) (rep_evs hi y)
    exact ⟨q, run_value hq, hr⟩
  case unOp op t x =>
    have hx := rep_ev hi.slots x
    unfold unv at h
    split at h
    · rename_i k n e; rw [e] at hx
      have hx' : a.eval x = .int k n := hx
      split at h <;> first | (cases h; done) | skip
      · obtain rfl := Option.some.inj h
        exact ⟨.int k (k.wrap (0 - n)), by simp [execOp, hx', Op.unary, Op.intArith], rfl⟩
      · obtain rfl := Option.some.inj h
        exact ⟨.int k (bits .xor k (if k.signed then -1 else k.max) n), by simp [execOp, hx', Op.unary, intBits_xor], rfl⟩
    · rename_i b e; rw [e] at hx
      have hx' : a.eval x = .bool b := hx
      split at h <;> first | (cases h; done) | skip
      obtain rfl := Option.some.inj h
      exact ⟨.bool !b, by simp [execOp, hx', Op.unary], rfl⟩
    · cases h
  case convert src dst' x =>
    obtain ⟨u, hu, hr⟩ := convv_sound h (rep_ev hi.slots x)
    exact ⟨u, run_value hu, hr⟩
  case makeInterface t x =>
    cases hj : ti P t with
    | none => simp [hj] at h
    | some j =>
      simp only [hj] at h
      obtain ⟨_, d, _, h1⟩ := ti_tells hj
      have hrun : (Instr.makeInterface t (a.eval x)).run P w = .ok (.iface t (a.eval x)) w := by
        have hk := h1.k
        simp only [Instr.makeInterface, Sem.run_bind, h1.run_und, Result.andThen_ok]
        cases d <;> simp only [tkOf] at hk <;> simp only [hk] at h <;> first | rfl | (cases h; done)
      have h' : some (AV.iface t (evs s x)) = some r := by
        split at h <;> first | (cases h; done) | exact h
      obtain rfl := Option.some.inj h'
      exact ⟨_, run_value hrun, _, rfl, rep_evs hi x⟩
  case makeFunc fn first captured =>
    cases fn <;> simp only [opv] at h <;> first | (cases h; done) | skip
    split at h
    · rename_i hf
      obtain rfl := Option.some.inj h
      have hf' : first = #[] := by simpa using hf
      subst hf'
      exact ⟨_, rfl, captured.toList.map a.eval, by rw [← map_toArray]; simp, repL_map' hi captured.toList⟩
    · cases h
  case fieldAddr t x f =>
    obtain ⟨u, hu, hr⟩ := fieldAddrv_sound h (rep_ev hi.slots x)
    exact ⟨u, run_value hu, hr⟩
  case field t x f =>
    obtain ⟨u, hu, hr⟩ := fieldv_sound h (rep_ev hi.slots x)
    exact ⟨u, run_value hu, hr⟩
  case extract x i =>
    have hx := rep_ev hi.slots x
    split at h
    · rename_i vs e; rw [e] at hx
      obtain ⟨us, he, hr⟩ := hx
      obtain ⟨u, hu, hr'⟩ := hr.get h
      exact ⟨u, by simp [execOp, he, Instr.extract, hu], hr'⟩
    · cases h
  case build t parts =>
    cases hj : ti P t with
    | none => simp [hj] at h
    | some j =>
      simp only [hj] at h
      obtain ⟨_, d, z, h1⟩ := ti_tells hj
      split at h
      · rename_i q fs hk
        obtain ⟨fl, hd, hfs, _⟩ := h1.desc_struct hk
        subst hd
        split at h
        · cases h
        rename_i hall
        split at h
        · rename_i cs hcs
          obtain rfl := Option.some.inj h
          have hsz : ∀ f ∈ fl.toList, (do pure (f.offset, ← sizeOf f.type) : Sem (Nat × Nat)).run P w = .ok (f.offset, ((ti P f.type).map (·.size)).getD 0) w := by
            intro f hf
            have : (ti P f.type).isSome = true := by
              have hall' : fs.all (fun p => (ti P p.2).isSome) = true := by simpa only [Bool.not_eq_false] using hall
              rw [hfs, List.all_eq_true] at hall'
              exact hall' (f.offset, f.type) (List.mem_map.2 ⟨f, hf, rfl⟩)
            obtain ⟨k, hk⟩ := Option.isSome_iff_exists.1 this
            obtain ⟨_, _, _, h2⟩ := ti_tells hk
            simp [h2.run_size, hk]
          have hmap := run_mapM (P := P) (w := w) (f := fun f : Field => (do pure (f.offset, ← sizeOf f.type) : Sem (Nat × Nat))) fl.toList hsz
          have hz : RepL w g j.zero z.cells.toList := by
            rw [h1.zeros]
            generalize z.cells.toList = l
            induction l with
            | nil => rfl
            | cons v l ih => exact ⟨v, l, rfl, rep_const v, ih⟩
          rw [hfs] at hcs
          obtain ⟨rs, hf1, hf2⟩ := fillv_sound (P := P) (w := w) (g := g) hi.wf.ownSl (fl := fl) (places := fun i => (fl.toList.map fun f => (f.offset, ((ti P f.type).map (·.size)).getD 0))[i]?)
            (fun i off t j h1 h2 => by
              simp only [List.getElem?_map, Option.map_eq_some_iff, Prod.mk.injEq] at h1 ⊢
              obtain ⟨q, hq, rfl, rfl⟩ := h1
              exact ⟨q, hq, rfl, by simp [h2]⟩)
            (parts := parts.toList.map fun p => (p.1, ev s.σ p.2)) (vals := parts.toList.map fun p => (p.1, a.eval p.2)) (us := z.cells) (by simp)
            (fun k p q h1 h2 => by
              simp only [List.getElem?_map, Option.map_eq_some_iff] at h1 h2
              obtain ⟨p', hp', rfl⟩ := h1
              obtain ⟨q', hq', rfl⟩ := h2
              obtain rfl : p' = q' := by rw [hp'] at hq'; exact Option.some.inj hq'
              exact ⟨rfl, rep_ev hi.slots p'.2⟩) hz hcs
          refine ⟨.agg rs, run_value ?_, rs.toList, by simp, hf2⟩
          simp only [Instr.build, Sem.run_bind, h1.run_zero, h1.run_und, Result.andThen_ok, Array.mapM_eq_mapM_toList, Sem.run_map]
          rw [hmap]
          simp only [Result.andThen_ok]
          have hf1' : Instr.fill (fun x => (List.map (fun f : Field => (f.offset, ((ti P f.type).map (·.size)).getD 0)) fl.toList).toArray[x]?) z.cells (Array.map (fun x => (x.fst, a.eval x.snd)) parts).toList = some rs := by
            simpa using hf1
          simp only [hf1', Sem.run_pure]
        · cases h
      · cases h
  case call c =>
    obtain ⟨callee, args, ats⟩ := c
    cases callee <;> simp only [opv] at h <;> first | (cases h; done) | skip
    rename_i b
    change ∃ u, (builtin b ats type _ (args.map a.eval)).run P w = _ ∧ _
    have h2 := fun cs => builtinv_sound (P := P) (w := w) (g := g) (t := type) (cs := cs) h (repL_map hi args.toList)
    rw [← map_toArray] at h2
    exact h2 _

end
end Go.Pv
