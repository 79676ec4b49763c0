/- What an operation that changes no memory answers, reckoned on plain data; and that the machine's operation answers just that. -/
import Derived.Test.YtngeejjllgnpcaaPvB
namespace Go.Pv
set_option linter.unusedSimpArgs false
set_option linter.unusedSectionVars false
set_option linter.unusedVariables false

/-! ### types -/

inductive TK where
  | bool | int (k : IntKind) | str | ptr (e : TypeId) | slice (e : TypeId) | struct (eqok : Bool) (fs : List (Nat × TypeId)) | iface (bare : Bool) | fn | map (k e : TypeId) | bad

structure TI where
  k : TK
  size : Nat
  bytes : Nat
  zero : List AV
  cmp : Bool

def tkOf (P : Program) (t : TypeId) : TypeDesc → TK
  | .bool => .bool
  | .int k => .int k
  | .string => .str
  | .pointer e => .ptr e
  | .slice e => .slice e
  | .struct fs => .struct (!P.stoodInHeld t && !P.eqGuardType P.depth t && fs.toList.all (·.name != "_")) (fs.toList.map fun f => (f.offset, f.type))
  | .interface ms => .iface ms.isEmpty
  | .func _ _ _ => .fn
  | .map k e => .map k e
  | _ => .bad

def tiOf (P : Program) (t : TypeId) : Option TI :=
  match P.info? t, P.underlying t with
  | some i, some d => match i.zero with
    | some z => some ⟨tkOf P t d, i.size, i.bytes, z.cells.toList.map ofConst, i.comparable⟩
    | none => none
  | _, _ => none

def lkT : List (Nat × TI) → Nat → Option TI
  | [], _ => none
  | (t, i) :: r, u => if Nat.beq t u then some i else lkT r u

class Tab (P : Program) where
  T : List (Nat × TI)
  ok : ∀ p ∈ T, tiOf P p.1 = some p.2

def ti (P : Program) [Tab P] (t : TypeId) : Option TI := lkT (Tab.T P) t

theorem lkT_mem : ∀ {l : List (Nat × TI)} {t : Nat} {i : TI}, lkT l t = some i → (t, i) ∈ l
  | [], _, _, h => by simp [lkT] at h
  | (u, j) :: r, t, i, h => by
    simp only [lkT] at h
    by_cases hu : Nat.beq u t = true
    · rw [if_pos hu] at h
      simp only [Nat.beq_eq] at hu
      subst hu
      obtain rfl := Option.some.inj h
      simp
    · rw [if_neg hu] at h
      exact List.mem_cons_of_mem _ (lkT_mem h)

theorem ti_of {P : Program} [Tab P] {t : TypeId} {i : TI} (h : ti P t = some i) : tiOf P t = some i := Tab.ok _ (lkT_mem h)

structure Tells (P : Program) (t : TypeId) (i : TI) (inf : TypeInfo) (d : TypeDesc) (z : Value) : Prop where
  info : P.info? t = some inf
  und : P.underlying t = some d
  zero : inf.zero = some z
  k : i.k = tkOf P t d
  size : i.size = inf.size
  bytes : i.bytes = inf.bytes
  zeros : i.zero = z.cells.toList.map ofConst
  cmp : i.cmp = inf.comparable

theorem ti_tells {P : Program} [Tab P] {t : TypeId} {i : TI} (h : ti P t = some i) : ∃ inf d z, Tells P t i inf d z := by
  have := ti_of h
  unfold tiOf at this
  split at this
  · rename_i inf d h1 h2
    split at this
    · rename_i z hz
      obtain rfl := Option.some.inj this
      exact ⟨inf, d, z, ⟨h1, h2, hz, rfl, rfl, rfl, rfl, rfl⟩⟩
    · cases this
  · cases this

section
variable {P : Program} {t : TypeId} {i : TI} {inf : TypeInfo} {d : TypeDesc} {z : Value} (h : Tells P t i inf d z) (w : World)
include h
theorem Tells.run_info : (typeInfo t).run P w = .ok inf w := by simp [typeInfo, h.info]
theorem Tells.run_und : (underlying t).run P w = .ok d w := run_underlying h.und w
theorem Tells.run_size : (sizeOf t).run P w = .ok i.size w := by simp [sizeOf, h.run_info, h.size]
theorem Tells.run_zero : (zeroValue t).run P w = .ok z w := by simp [zeroValue, h.run_info, h.zero]
theorem Tells.desc_bool (hk : i.k = .bool) : d = .bool := by have := h.k; rw [hk] at this; cases d <;> simp [tkOf] at this <;> first | rfl | simp_all
theorem Tells.desc_int {k : IntKind} (hk : i.k = .int k) : d = .int k := by have := h.k; rw [hk] at this; cases d <;> simp [tkOf] at this <;> simp_all
theorem Tells.desc_str (hk : i.k = .str) : d = .string := by have := h.k; rw [hk] at this; cases d <;> simp [tkOf] at this <;> first | rfl | simp_all
theorem Tells.desc_ptr {e : TypeId} (hk : i.k = .ptr e) : d = .pointer e := by have := h.k; rw [hk] at this; cases d <;> simp [tkOf] at this <;> simp_all
theorem Tells.desc_slice {e : TypeId} (hk : i.k = .slice e) : d = .slice e := by have := h.k; rw [hk] at this; cases d <;> simp [tkOf] at this <;> simp_all
theorem Tells.desc_fn (hk : i.k = .fn) : ∃ a b c, d = .func a b c := by have := h.k; rw [hk] at this; cases d <;> simp [tkOf] at this <;> exact ⟨_, _, _, rfl⟩
theorem Tells.desc_map {k e : TypeId} (hk : i.k = .map k e) : d = .map k e := by have := h.k; rw [hk] at this; cases d <;> simp [tkOf] at this <;> simp_all
theorem Tells.desc_iface {b : Bool} (hk : i.k = .iface b) : ∃ ms, d = .interface ms ∧ ms.isEmpty = b := by have := h.k; rw [hk] at this; cases d <;> simp [tkOf] at this <;> exact ⟨_, rfl, by simp_all⟩
theorem Tells.desc_struct {q : Bool} {fs : List (Nat × TypeId)} (hk : i.k = .struct q fs) : ∃ fl : Array Field, d = .struct fl ∧ fs = fl.toList.map (fun f => (f.offset, f.type)) ∧
    q = (!P.stoodInHeld t && !P.eqGuardType P.depth t && fl.toList.all (·.name != "_")) := by
  have := h.k; rw [hk] at this; cases d <;> simp only [tkOf] at this <;> first | (simp at this; done) | skip
  rename_i fl
  simp only [TK.struct.injEq] at this
  exact ⟨fl, rfl, this.2, this.1⟩
end

def TK.agg : TK → Option Bool
  | .struct _ _ => some true
  | .bad => none
  | _ => some false

theorem Tells.run_agg {P : Program} {t : TypeId} {i : TI} {inf : TypeInfo} {d : TypeDesc} {z : Value} (h : Tells P t i inf d z) {b : Bool} (hb : i.k.agg = some b) (w : World) :
    (isAgg t).run P w = .ok b w := by
  have hk := h.k
  simp only [isAgg, Sem.run_bind, h.run_und, Result.andThen_ok]
  cases d <;> simp [tkOf] at hk <;> simp [hk, TK.agg] at hb <;> simp [hb]

/-! ### what is read -/

def lkN (H : List (Nat × Nat × AV)) (id off : Nat) : Nat → Option (List AV)
  | 0 => some []
  | n + 1 => match lkH H id off with
    | some x => match lkN H id (off + 1) n with
      | some r => some (x :: r)
      | none => none
    | none => none

def loadv (H : List (Nat × Nat × AV)) (i : TI) : AV → Option AV
  | .ptr id off => match i.k.agg with
    | some true => match lkN H id off i.size with
      | some cs => some (.agg cs)
      | none => none
    | some false => lkH H id off
    | none => none
  | .rd cs => match i.k.agg with
    | some true => if Nat.ble i.size cs.length then some (.agg (cs.take i.size)) else none
    | some false => cs.head?
    | none => none
  | _ => none

theorem addr_add (b o n : Nat) : Addr.add ⟨b, o, none⟩ n = ⟨b, o + n, none⟩ := Addr.add_lit b o n

theorem RelH.cell {H : List (Nat × Nat × AV)} {w : World} {g : G} (h : RelH H w g) {id off : Nat} {x : AV} (hx : lkH H id off = some x) :
    ∃ b v, g.blk id = some b ∧ w.cell? ⟨b, off, none⟩ = some v ∧ w.frozen? ⟨b, off, none⟩ = false ∧ Rep w g x v := by
  obtain ⟨b, c, e, hb, hw, v, hv, r⟩ := h id off x hx
  exact ⟨b, v, hb, by simp [World.cell?, hw, hv], by simp [World.frozen?, hw], r⟩

theorem RelH.cellsN {H : List (Nat × Nat × AV)} {w : World} {g : G} (h : RelH H w g) {id b : Nat} (hb : g.blk id = some b) : ∀ {n off : Nat} {cs : List AV}, lkN H id off n = some cs →
    ∃ vs : List Value, vs.length = n ∧ RepL w g cs vs ∧ ∀ j v, vs[j]? = some v → w.cell? ⟨b, off + j, none⟩ = some v
  | 0, off, cs, hc => by
    simp only [lkN] at hc
    obtain rfl := Option.some.inj hc
    exact ⟨[], rfl, rfl, fun j v h => by simp at h⟩
  | n + 1, off, cs, hc => by
    simp only [lkN] at hc
    cases hx : lkH H id off with
    | none => simp [hx] at hc
    | some x =>
      simp only [hx] at hc
      cases hr : lkN H id (off + 1) n with
      | none => simp [hr] at hc
      | some r =>
        simp only [hr] at hc
        obtain rfl := Option.some.inj hc
        obtain ⟨b', v, hb', hv, _, rv⟩ := h.cell hx
        obtain rfl : b' = b := by rw [hb] at hb'; exact (Option.some.inj hb').symm
        obtain ⟨vs, hl, hrep, hcell⟩ := RelH.cellsN h hb hr
        refine ⟨v :: vs, by simp [hl], ⟨v, vs, rfl, rv, hrep⟩, fun j u hu => ?_⟩
        cases j with
        | zero => simp at hu; subst hu; simpa using hv
        | succ j =>
          have := hcell j u (by simpa using hu)
          rwa [show off + (j + 1) = off + 1 + j by omega]

theorem RepAt.cells {w : World} {top : Nat → Nat} {b : Nat} (g : G) : ∀ {cs : List AV} {o : Nat}, RepAt w top b o cs → g.top = top →
    ∃ vs : List Value, vs.length = cs.length ∧ RepL w g cs vs ∧ ∀ j v, vs[j]? = some v → w.cell? ⟨b, o + j, none⟩ = some v
  | [], o, _, _ => ⟨[], rfl, rfl, fun j v h => by simp at h⟩
  | x :: cs, o, h, ht => by
    obtain ⟨⟨_, v, hv, rv⟩, hr⟩ := h
    obtain ⟨vs, hl, hrep, hcell⟩ := RepAt.cells g hr ht
    refine ⟨v :: vs, by simp [hl], ⟨v, vs, rfl, rv.mono x v ⟨⟨fun b => by simp [G.ofTop, ht], fun _ _ _ => rfl⟩, fun _ _ e => by simp [G.ofTop] at e, fun _ _ e => by simp [G.ofTop] at e, fun _ _ e => by simp [G.ofTop] at e⟩, hrep⟩, fun j u hu => ?_⟩
    cases j with
    | zero => simp at hu; subst hu; simpa using hv
    | succ j =>
      have := hcell j u (by simpa using hu)
      rwa [show o + (j + 1) = o + 1 + j by omega]

section
variable {P : Program} {w : World} {g : G}

theorem run_load_cell {a : Addr} {v : Value} (h : w.cell? a = some v) : (load a).run P w = .ok v w := by simp [h]

theorem loadv_sound {H : List (Nat × Nat × AV)} {t : TypeId} {i : TI} {inf : TypeInfo} {d : TypeDesc} {z : Value} (ht : Tells P t i inf d z) (hH : RelH H w g)
    {x y : AV} {v : Value} (hx : Rep w g x v) (hy : loadv H i x = some y) : ∃ u, (Instr.loadAt t v).run P w = .ok u w ∧ Rep w g y u := by
  cases x <;> simp only [loadv] at hy <;> first | (cases hy; done) | skip
  case ptr id off =>
    obtain ⟨b, hb, rfl⟩ := hx
    cases hg : i.k.agg with
    | none => simp [hg] at hy
    | some q =>
      simp only [hg] at hy
      cases q with
      | false =>
        obtain ⟨b', u, hb', hv, _, r⟩ := hH.cell hy
        obtain rfl : b' = b := by rw [hb] at hb'; exact (Option.some.inj hb').symm
        exact ⟨u, by simp [Instr.loadAt, Instr.sureAddr, loadVar, ht.run_agg hg, hv], r⟩
      | true =>
        cases hc : lkN H id off i.size with
        | none => simp [hc] at hy
        | some cs =>
          simp only [hc] at hy
          obtain rfl := Option.some.inj hy
          obtain ⟨vs, hl, hrep, hcell⟩ := hH.cellsN hb hc
          have hload := run_loadCells_list (P := P) w ⟨b, off, none⟩ vs (fun j v hv => by rw [addr_add]; exact hcell j v hv)
          rw [hl] at hload
          exact ⟨.agg vs.toArray, by simp [Instr.loadAt, Instr.sureAddr, loadVar, ht.run_agg hg, ht.run_size, hload], vs, rfl, hrep⟩
  case rd cs =>
    obtain ⟨b, o, rfl, hr⟩ := hx
    cases hg : i.k.agg with
    | none => simp [hg] at hy
    | some q =>
      simp only [hg] at hy
      obtain ⟨vs, hl, hrep, hcell⟩ := RepAt.cells g hr rfl
      cases q with
      | false =>
        cases cs with
        | nil => simp at hy
        | cons x cs =>
          simp at hy; subst hy
          obtain ⟨v, hv, r⟩ := RepL.get hrep (i := 0) (x := x) (by simp)
          have : w.cell? ⟨b, o, none⟩ = some v := by simpa using hcell 0 v hv
          exact ⟨v, by simp [Instr.loadAt, Instr.sureAddr, loadVar, ht.run_agg hg, this], r⟩
      | true =>
        by_cases hb : Nat.ble i.size cs.length = true
        · rw [if_pos hb] at hy
          obtain rfl := Option.some.inj hy
          have hle : i.size ≤ cs.length := by simpa using hb
          have hload := run_loadCells_list (P := P) w ⟨b, o, none⟩ (vs.take i.size) (fun j v hv => by
            rw [addr_add]; refine hcell j v ?_
            rw [List.getElem?_take] at hv
            split at hv
            · exact hv
            · cases hv)
          have hl' : (vs.take i.size).length = i.size := by simp [hl]; omega
          rw [hl'] at hload
          exact ⟨.agg (vs.take i.size).toArray, by simp [Instr.loadAt, Instr.sureAddr, loadVar, ht.run_agg hg, ht.run_size, hload], _, rfl, RepL.take _ hrep⟩
        · rw [if_neg hb] at hy; cases hy

/-! ### a part of a struct, and equality -/

def partv (i : TI) (cs : List AV) (off : Nat) : Option AV :=
  match i.k.agg with
  | some true => some (.agg ((cs.drop off).take i.size))
  | some false => cs[off]?
  | none => none

theorem partv_sound {t : TypeId} {i : TI} {inf : TypeInfo} {d : TypeDesc} {z : Value} (ht : Tells P t i inf d z) {cs : List AV} {vs : List Value} {off : Nat} {y : AV}
    (hr : RepL w g cs vs) (hy : partv i cs off = some y) : ∃ u, (part t vs.toArray off).run P w = .ok u w ∧ Rep w g y u := by
  unfold partv at hy
  split at hy
  · rename_i hg
    obtain rfl := Option.some.inj hy
    exact ⟨.agg (vs.toArray.extract off (off + i.size)), by simp [part, ht.run_agg hg, ht.run_size], (vs.drop off).take i.size, by simp [List.extract_toArray, List.extract_eq_take_drop], RepL.take _ (RepL.drop _ hr)⟩
  · rename_i hg
    obtain ⟨v, hv, r⟩ := RepL.get hr hy
    exact ⟨v, by simp [part, ht.run_agg hg, hv], r⟩
  · cases hy

def eqFs (P : Program) [Tab P] (f : TypeId → AV → AV → Option Bool) : List (Nat × TypeId) → List AV → List AV → Option Bool
  | [], _, _ => some true
  | (off, u) :: r, xs, ys => match ti P u with
    | none => none
    | some i => match partv i xs off, partv i ys off with
      | some a, some b => match f u a b, eqFs P f r xs ys with
        | some p, some q => some (p && q)
        | _, _ => none
      | _, _ => none

/-- Are two values of a type the same? (numbers, bools, texts, structs of these) -/
def eqC (P : Program) [Tab P] : Nat → TypeId → AV → AV → Option Bool
  | 0, _, _, _ => none
  | n + 1, t, x, y => match ti P t with
    | none => none
    | some i => match i.k, x, y with
      | .bool, .bool a, .bool b => some (a == b)
      | .int _, .int k a, .int k' b => if k = k' then some (a == b) else none
      | .str, .str a, .str b => some (a.toList == b.toList)
      | .struct true fs, .agg xs, .agg ys => eqFs P (eqC P n) fs xs ys
      | _, _, _ => none

theorem eqFs_sound [Tab P] {f : TypeId → AV → AV → Option Bool} {n : Nat} {xs ys : List AV} {us vs : List Value} (hx : RepL w g xs us) (hy : RepL w g ys vs)
    (hf : ∀ t x y u v r, f t x y = some r → Rep w g x u → Rep w g y v → (Op.equalIn n t u v).run P w = .ok r w) :
    ∀ (fl : List Field) (r : Bool), fl.all (·.name != "_") = true → eqFs P f (fl.map fun f => (f.offset, f.type)) xs ys = some r →
      (Op.eqFields n us.toArray vs.toArray fl).run P w = .ok r w
  | [], r, _, h => by
    simp only [List.map_nil, eqFs] at h
    obtain rfl := Option.some.inj h
    simp [Op.eqFields]
  | q :: fl, r, hn, h => by
    simp only [List.all_cons, Bool.and_eq_true] at hn
    simp only [List.map_cons, eqFs] at h
    cases hi : ti P q.type with
    | none => simp [hi] at h
    | some i =>
      simp only [hi] at h
      obtain ⟨inf, d, z, ht⟩ := ti_tells hi
      cases ha : partv i xs q.offset with
      | none => simp [ha] at h
      | some a =>
        cases hb : partv i ys q.offset with
        | none => simp [ha, hb] at h
        | some b =>
          simp only [ha, hb] at h
          cases hp : f q.type a b with
          | none => simp [hp] at h
          | some p =>
            cases hq : eqFs P f (fl.map fun f => (f.offset, f.type)) xs ys with
            | none => simp [hp, hq] at h
            | some k =>
              simp only [hp, hq] at h
              obtain rfl := Option.some.inj h
              obtain ⟨u, hu, ru⟩ := partv_sound (w := w) (g := g) ht hx ha
              obtain ⟨v, hv, rv⟩ := partv_sound (w := w) (g := g) ht hy hb
              have he := hf _ _ _ _ _ _ hp ru rv
              have ih := eqFs_sound hx hy hf fl k hn.2 hq
              have hne : q.name ≠ "_" := by simpa using hn.1
              simp only [Op.eqFields, hne, ne_eq, not_false_eq_true, if_true, Sem.run_bind, hu, hv, he, Result.andThen_ok]
              cases p <;> simp [ih]

theorem eqC_sound [Tab P] : ∀ (n : Nat) (t : TypeId) (x y : AV) (u v : Value) (r : Bool), eqC P n t x y = some r → Rep w g x u → Rep w g y v → ∀ m, n ≤ m → (Op.equalIn m t u v).run P w = .ok r w
  | 0, _, _, _, _, _, _, h, _, _, _, _ => by simp [eqC] at h
  | n + 1, t, x, y, u, v, r, h, hx, hy, m, hm => by
    obtain ⟨m, rfl⟩ : ∃ k, m = k + 1 := ⟨m - 1, by omega⟩
    simp only [eqC] at h
    cases hi : ti P t with
    | none => simp [hi] at h
    | some i =>
      simp only [hi] at h
      obtain ⟨inf, d, z, ht⟩ := ti_tells hi
      split at h
      · rename_i hk
        obtain rfl := Option.some.inj h
        obtain rfl : u = _ := hx
        obtain rfl : v = _ := hy
        exact run_equalIn_bool w m t _ _ (by rw [ht.und, ht.desc_bool hk])
      · rename_i hk
        split at h
        · rename_i hkk; subst hkk
          obtain rfl := Option.some.inj h
          obtain rfl : u = _ := hx
          obtain rfl : v = _ := hy
          exact run_equalIn_int w m t _ _ _ _ (by rw [ht.und, ht.desc_int hk])
        · cases h
      · rename_i hk
        obtain rfl := Option.some.inj h
        obtain rfl : u = _ := hx
        obtain rfl : v = _ := hy
        exact run_equalIn_string w m t _ _ (by rw [ht.und, ht.desc_str hk])
      · rename_i fs xs ys hk
        obtain ⟨us, rfl, hus⟩ := hx
        obtain ⟨vs, rfl, hvs⟩ := hy
        obtain ⟨fl, hd, hfs, hq⟩ := ht.desc_struct hk
        subst hd
        replace hq := hq.symm
        simp only [Bool.and_eq_true, Bool.not_eq_true'] at hq
        have hfo : P.fieldsOf t = fl := by simp [Program.fieldsOf, ht.und]
        rw [run_equalIn_agg w m t _ _ (by rw [ht.und, hfo]) hq.1.1, hfo]
        rw [hfs] at h
        exact eqFs_sound hus hvs (fun t x y u v r hr h1 h2 => eqC_sound n t x y u v r hr h1 h2 m (by omega)) fl.toList r hq.2 h
      · cases h

end

end Go.Pv
