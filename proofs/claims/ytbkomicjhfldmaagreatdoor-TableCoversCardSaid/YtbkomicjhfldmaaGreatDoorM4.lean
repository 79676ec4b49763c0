/- The texts of a proof, put together by a program of this session's. -/
import Derived.Laws.IdiomStrings
import Derived.Test.YtbkomicjhfldmaaGreatDoorM3
namespace Go.Pv
open Go.RowKit (Below)
set_option linter.unusedSimpArgs false
set_option linter.unusedSectionVars false
set_option linter.unusedVariables false
section
variable {P : Program} [Tab P] {N n0 : Nat} {Q : Post} {ops : Array Oper} {rest : List Oper} {σ : List (Nat × AV)} {H A : List (Nat × Nat × AV)} {O : List (Nat × Kind)} {n i : Nat}
  {d : Nat} {op : Op} {ty : TypeId} {pos : String} {af : Array Edge} {gd : Option (Nat × Bool)} {s : St}
def ValAt (P : Program) (N n0 : Nat) (s : St) (op : Op) (v : AV) : Prop :=
  ∀ (o : Oper), o.op = op → ∀ w0 g0 a w g, Inv N n0 w0 g0 s a w g → ∃ u, (execOp a.eval o).run P w = .ok (.value u) w ∧ Rep w g v u
theorem va_eq {v v' : AV} (h : ValAt P N n0 s op v) (e : v = v') : ValAt P N n0 s op v' := e ▸ h
theorem rV {v : AV} (hd : Nat.blt d N = true) (hv : ValAt P N n0 ⟨σ, H, O, n⟩ op v) (k : aops P N n0 ops rest Q ⟨(d, v) :: σ, H, O, n⟩) :
    aops P N n0 ops (⟨some d, op, ty, pos, af, none⟩ :: rest) Q ⟨σ, H, O, n⟩ :=
  aops_value rfl (fun w0 g0 a w g hi => by
    obtain ⟨u, hu, hr⟩ := hv ⟨some d, op, ty, pos, af, none⟩ rfl w0 g0 a w g hi
    exact ⟨u, w, g, hu, hi.put (d := some d) hr hd⟩) k
theorem dV {K : St → Prop} {v : AV} (hd : Nat.blt d N = true) (hg : wantedS ops σ gd = some true) (hv : ∀ m, ValAt P N n0 ⟨restr ⟨some d, op, ty, pos, af, gd⟩ σ, H, O, m⟩ op v)
    (k : DP P N n0 ops H O (i + 1) rest ((d, v) :: σ) n A K) : DP P N n0 ops H O i (⟨some d, op, ty, pos, af, gd⟩ :: rest) σ n A K := by
  obtain ⟨σ', n', A', al, hp, hk⟩ := k
  exact ⟨σ', n', A', al, .go rfl hd hg (fun m => step_value fun w0 g0 a w g hi => hv m { dst := some d, op := op, type := ty, pos := pos, after := af, guard := none } rfl w0 g0 a w g hi) hp, hk⟩
def bAt (b : ByteArray) (k : Int) : Int := ((b.data.toList[k.toNat]?).map fun c => (c.toNat : Int)).getD 0
theorem va_index {t : TypeId} {x ix : Operand} {b : ByteArray} {k : IntKind} {iv : Int} {j : TI} (ht : ti P t = some j) (hk : j.k = .str) (hx : evs s x = .str b) (hi : ev s.σ ix = .int k iv) (h0 : 0 ≤ iv) (h1 : iv < b.size) :
    ValAt P N n0 s (.index t x ix) (.int .u8 (bAt b iv)) := by
  rintro ⟨dst, op, type, pos, after, guard⟩ rfl w0 g0 a w g hin
  obtain ⟨_, _, _, h2⟩ := ti_tells ht
  have hu : P.underlying t = some .string := by rw [h2.und, h2.desc_str hk]
  have r1 := rep_evs hin x
  rw [hx] at r1
  have r2 := rep_ev hin.slots ix
  rw [hi] at r2
  have e1 : a.eval x = .string b := r1
  have e2 : a.eval ix = .int k iv := r2
  have hlt : iv.toNat < b.size := by omega
  have hb : b[iv.toNat]? = some b.data.toList[iv.toNat] := by
    rw [getElem?_pos b iv.toNat hlt]; rfl
  refine ⟨.int .u8 (bAt b iv), run_value (u := .int .u8 (bAt b iv)) ?_, rfl⟩
  rw [e1, e2]
  have hl : iv.toNat < b.data.toList.length := by simpa using hlt
  simp only [Instr.index, Sem.run_bind, asIntOf, Sem.run_pure, Result.andThen_ok, run_underlying hu, if_pos h0, hb, bAt, List.getElem?_eq_getElem hl]
  simp
theorem run_bounds {w : World} {len cap l h : Nat} {lo hi : Option Value} (hlo : match lo with | some v => ∃ k, v = .int k (l : Int) | none => l = 0) (hhi : match hi with | some v => ∃ k, v = .int k (h : Int) | none => h = len)
    (b : Bool) (hlh : l ≤ h) (hc : h ≤ cap) : (Instr.sliceBounds b len cap lo hi none).run P w = .ok (l, h, cap) w := by
  have hb : ∀ {k : IntKind} {m y : Nat} {c : BoundsCode}, m ≤ y → (Instr.sliceBound (.int k (m : Int)) y c).run P w = .ok m w := fun {k m y c} hm => by
    simp only [Instr.sliceBound, asIntOf, Sem.run_bind, Sem.run_pure, Result.andThen_ok]
    rw [if_pos ⟨by omega, by omega⟩]; simp
  cases lo <;> cases hi <;> simp only at hlo hhi
  · subst hlo; subst hhi
    simp [Instr.sliceBounds]
  · subst hlo
    obtain ⟨k, rfl⟩ := hhi
    simp [Instr.sliceBounds, hb hc]
  · subst hhi
    obtain ⟨k, rfl⟩ := hlo
    simp [Instr.sliceBounds, hb hlh]
  · obtain ⟨k, rfl⟩ := hlo
    obtain ⟨k', rfl⟩ := hhi
    simp [Instr.sliceBounds, hb hc, hb hlh]
def bnd (s : St) (d : Nat) : Option Operand → Nat → Prop
  | none, l => l = d
  | some x, l => ∃ k, ev s.σ x = .int k (l : Int)
theorem bnd_val {w0 : World} {g0 : G} {a : Act} {w : World} {g : G} (hin : Inv N n0 w0 g0 s a w g) {dd l : Nat} {x : Option Operand} (h : bnd s dd x l) :
    match x.map a.eval with | some v => ∃ k, v = .int k (l : Int) | none => l = dd := by
  cases x with
  | none => exact h
  | some x =>
    obtain ⟨k, hk⟩ := h
    have r := rep_ev hin.slots x
    rw [hk] at r
    exact ⟨k, r⟩
theorem va_substr {t : TypeId} {x : Operand} {lo hi : Option Operand} {b : ByteArray} {l h : Nat} {j : TI} (ht : ti P t = some j) (hk : j.k = .str) (hx : evs s x = .str b)
    (hlo : bnd s 0 lo l) (hhi : bnd s b.size hi h) (hlh : l ≤ h) (hb : h ≤ b.size) : ValAt P N n0 s (.slice t x lo hi none) (.str (b.extract l h)) := by
  rintro ⟨dst, op, type, pos, after, guard⟩ rfl w0 g0 a w g hin
  obtain ⟨_, _, _, h2⟩ := ti_tells ht
  have hu : P.underlying t = some .string := by rw [h2.und, h2.desc_str hk]
  have r1 := rep_evs hin x
  rw [hx] at r1
  have e1 : a.eval x = .string b := r1
  have := run_bounds (P := P) (w := w) (len := b.size) (cap := b.size) (bnd_val hin hlo) (bnd_val hin hhi) false hlh hb
  refine ⟨.string (b.extract l h), run_value ?_, rfl⟩
  simp [Instr.sliceAt, Instr.slice, run_underlying hu, e1, this]
theorem sl_part {w : World} {g : G} {z : Nat} {xs : List (List AV)} {l h m : Nat} {ad : Option Addr} {cap : Nat} (hw : Wide z xs) (hlh : l ≤ h) (hh : h ≤ xs.length) (hm : h ≤ m) (hc : xs.length ≤ cap) (hn : ad = none → xs = [])
    (hrows : ∀ b, ad = some b → (xs ≠ [] → b.spot = none) ∧ RepRows w g.top b.block b.off xs) :
    Rep w g (.sl ((xs.take h).drop l)) (.slice (if m = l then ad else ad.map (·.add (l * z))) (h - l) (m - l)) := by
  have hlen : ((xs.take h).drop l).length = h - l := by simp; omega
  refine ⟨_, m - l, by rw [hlen], by omega, fun e => ?_, fun b e => ?_⟩
  · have : ad = none := by
      split at e
      · exact e
      · simpa using e
    rw [hn this]; simp
  · by_cases hml : m = l
    · rw [if_pos hml] at e
      have : (xs.take h).drop l = [] := List.eq_nil_of_length_eq_zero (by omega)
      rw [this]
      exact ⟨fun h => absurd rfl h, trivial⟩
    · rw [if_neg hml] at e
      cases had : ad with
      | none => rw [had] at e; cases e
      | some b0 =>
        rw [had] at e
        obtain rfl := Option.some.inj e
        obtain ⟨p1, p2⟩ := hrows b0 had
        by_cases hx : xs = []
        · subst hx
          exact ⟨fun h => absurd (by simp) h, by simp [RepRows]⟩
        · obtain ⟨bb, off, sp⟩ := b0
          obtain rfl := p1 hx
          simp only [addr_add]
          exact ⟨fun _ => (by trivial), RepRows.drop (n := z) l (fun r hr => hw r (List.mem_of_mem_take hr)) (RepRows.take h p2) (by simp; omega)⟩
theorem va_sub {t e : TypeId} {x : Operand} {lo hi : Option Operand} {xs : List (List AV)} {l h : Nat} {j je : TI} (ht : ti P t = some j) (hk : j.k = .slice e) (he : ti P e = some je) (hx : evs s x = .sl xs)
    (hlo : bnd s 0 lo l) (hhi : bnd s xs.length hi h) (hlh : l ≤ h) (hb : h ≤ xs.length) (hw : Wide je.size xs) : ValAt P N n0 s (.slice t x lo hi none) (.sl ((xs.take h).drop l)) := by
  rintro ⟨dst, op, type, pos, after, guard⟩ rfl w0 g0 a w g hin
  obtain ⟨_, _, _, h2⟩ := ti_tells ht
  obtain ⟨_, _, _, h3⟩ := ti_tells he
  have hu : P.underlying t = some (.slice e) := by rw [h2.und, h2.desc_slice hk]
  have r1 := rep_evs hin x
  rw [hx] at r1
  obtain ⟨ad, cap, e1, hc, hn, had⟩ := r1
  have := run_bounds (P := P) (w := w) (len := xs.length) (cap := cap) (bnd_val hin hlo) (bnd_val hin hhi) true hlh (by omega)
  refine ⟨_, run_value (u := .slice (if cap = l then ad else ad.map (·.add (l * je.size))) (h - l) (cap - l)) ?_, sl_part hw hlh hb (by omega) hc hn had⟩
  simp only [Instr.sliceAt, Instr.slice, Sem.run_bind, run_underlying hu, Result.andThen_ok, e1, Option.map_none, this, h3.run_size, Sem.run_pure]
end
end Go.Pv
namespace Go.Pv
open Go.RowKit (Below)
set_option linter.unusedSimpArgs false
set_option linter.unusedSectionVars false
set_option linter.unusedVariables false
def rowsv (z : Nat) : List (List AV) → List (Nat × AV) → Option (List (List AV))
  | rows, [] => some rows
  | rows, (i, v) :: r => match cellsv v with
    | some cs => if Nat.beq cs.length z && Nat.blt i rows.length then rowsv z (rows.set i cs) r else none
    | none => none
theorem setL_split : ∀ (cs l : List AV) (k : Nat), k + cs.length ≤ l.length → setL l k cs = l.take k ++ cs ++ l.drop (k + cs.length)
  | [], l, k, _ => by simp [setL]
  | c :: cs, l, k, h => by
    simp only [List.length_cons] at h
    rw [setL, setL_split cs (l.set k c) (k + 1) (by simp; omega)]
    have h1 : (l.set k c).take (k + 1) = l.take k ++ [c] := by
      rw [List.take_add_one, List.take_set_of_le (Nat.le_refl _), List.getElem?_set_self (by omega)]
      rfl
    have h2 : (l.set k c).drop (k + 1 + cs.length) = l.drop (k + 1 + cs.length) := List.drop_set_of_lt (by omega)
    rw [h1, h2, show k + 1 + cs.length = k + (cs.length + 1) by omega]
    simp only [List.append_assoc, List.length_cons, List.cons_append, List.nil_append]
theorem flatten_set {z : Nat} : ∀ {rows : List (List AV)} {i : Nat} {cs : List AV}, Wide z rows → cs.length = z → i < rows.length → (rows.set i cs).flatten = setL rows.flatten (i * z) cs
  | [], i, cs, _, _, h => by simp at h
  | r :: rows, 0, cs, hw, hc, _ => by
    have h1 : r.length = z := hw r (by simp)
    rw [setL_split _ _ _ (by simp [h1, hc])]
    simp [h1, hc]
  | r :: rows, i + 1, cs, hw, hc, h => by
    have h1 : r.length = z := hw r (by simp)
    have hw' : Wide z rows := fun x hx => hw x (by simp [hx])
    have hi : i < rows.length := by simpa using h
    have ih := flatten_set hw' hc hi
    have hlen : i * z + z ≤ rows.flatten.length := by
      rw [hw'.flatten_length]
      have := Nat.mul_le_mul_right z (show i + 1 ≤ rows.length by omega)
      rw [Nat.add_mul, Nat.one_mul] at this; exact this
    simp only [List.set_cons_succ, List.flatten_cons, ih]
    rw [setL_split _ _ _ (by rw [hc]; exact hlen), setL_split _ _ _ (by simp only [List.length_append, h1, hc, Nat.add_mul, Nat.one_mul]; omega)]
    have e : (i + 1) * z = r.length + i * z := by rw [h1, Nat.add_mul, Nat.one_mul]; omega
    rw [e, List.take_length_add_append, Nat.add_assoc, List.drop_length_add_append]
    simp only [List.append_assoc]
section
variable {P : Program} [Tab P] {w : World} {g : G}
theorem rowsv_sound (hs : ∀ id v, g.own id = some v → v.oneCell' = true) {z : Nat} : ∀ {parts : List (Nat × AV)} {vals : List (Nat × Value)} {rows r : List (List AV)} {us : Array Value}, parts.length = vals.length →
    (∀ (i : Nat) (p : Nat × AV) (q : Nat × Value), parts[i]? = some p → vals[i]? = some q → p.1 = q.1 ∧ Rep w g p.2 q.2) → RepL w g rows.flatten us.toList → Wide z rows → rowsv z rows parts = some r →
    ∃ rs, Instr.fill (fun i => some (i * z, z)) us vals = some rs ∧ RepL w g r.flatten rs.toList ∧ Wide z r ∧ r.length = rows.length
  | [], vals, rows, r, us, hl, _, hc, hw, h => by
    have : vals = [] := by simpa using hl.symm
    subst this
    simp only [rowsv] at h
    obtain rfl := Option.some.inj h
    exact ⟨us, rfl, hc, hw, rfl⟩
  | (i, v) :: parts, [], _, _, _, hl, _, _, _, _ => by simp at hl
  | (i, v) :: parts, (i', u) :: vals, rows, r, us, hl, hv, hc, hw, h => by
    obtain ⟨rfl, hr⟩ := hv 0 _ _ rfl rfl
    simp only [rowsv] at h
    cases hcv : cellsv v with
    | none => simp [hcv] at h
    | some vs =>
      simp only [hcv] at h
      split at h
      · rename_i hb
        simp only [Bool.and_eq_true, Nat.beq_eq, Nat.blt_eq] at hb
        have hcells := cellsv_sound hcv hr hs
        have hlen : u.cells.size = z := by have := hcells.length; rw [hb.1] at this; simpa using this
        have hus : us.size = rows.length * z := by have := hc.length; rw [hw.flatten_length] at this; simpa using this
        have hw' : Wide z (rows.set i vs) := fun q hq => by
          rcases List.mem_or_eq_of_mem_set hq with hq | rfl
          · exact hw q hq
          · exact hb.1
        obtain ⟨rs, h1, h2, h3, h4⟩ := rowsv_sound hs (z := z) (parts := parts) (vals := vals) (rows := rows.set i vs)
          (us := u.cells.zipIdx.foldl (fun (cs : Array Value) (p : Value × Nat) => cs.setIfInBounds (i * z + p.2) p.1) us) (r := r) (by simpa using hl)
          (fun k p q h1 h2 => hv (k + 1) p q (by simpa using h1) (by simpa using h2)) (by
            have := setL_sound (off := i * z) (k := 0) (cs := rows.flatten) (us := us.toList) hc hcells
            rw [← Array.foldl_toList, Array.toList_zipIdx, foldl_set, flatten_set hw hb.1 hb.2]
            simpa using this) hw' h
        refine ⟨rs, ?_, h2, h3, by simpa using h4⟩
        have hle : i * z + z ≤ us.size := by
          rw [hus]
          have := Nat.mul_le_mul_right z (show i + 1 ≤ rows.length by omega)
          rw [Nat.add_mul, Nat.one_mul] at this; exact this
        simp only [Instr.fill, hlen, ne_eq, not_true_eq_false, decide_false, Bool.false_or]
        rw [if_neg (by simp; omega)]
        exact h1
      · cases h
theorem rep_zeros {zs : List Value} (hz : RepL w g (zs.map ofConst) zs) : ∀ len, RepL w g (List.replicate len (zs.map ofConst)).flatten (List.replicate len zs).flatten
  | 0 => by simp [RepL]
  | len + 1 => by
    simp only [List.replicate_succ, List.flatten_cons]
    exact RepL.append hz (rep_zeros hz len)
theorem rep_consts (w : World) (g : G) : ∀ l : List Value, RepL w g (l.map ofConst) l
  | [] => rfl
  | v :: l => ⟨v, l, rfl, rep_const v, rep_consts w g l⟩
theorem zero_cells (z : Array Value) : ∀ len, ((Array.range (len * z.size)).map (z[· % z.size]!)).toList = (List.replicate len z.toList).flatten := by
  intro len
  have h1 : ((Array.range (len * z.size)).map (z[· % z.size]!)).toList = (List.range (len * z.size)).map (z[· % z.size]!) := by simp
  rw [h1]
  induction len with
  | zero => simp
  | succ len ih =>
    rw [Nat.add_mul, Nat.one_mul, List.range_add, List.map_append, ih (by simp), List.replicate_succ', List.flatten_append]
    congr 1
    simp only [List.map_map, List.flatten_cons, List.flatten_nil, List.append_nil]
    refine List.ext_getElem (by simp) fun i h1 h2 => ?_
    simp only [List.length_map, List.length_range] at h1
    simp only [List.getElem_map, List.getElem_range, Function.comp, Array.getElem_toList]
    rw [Nat.mul_add_mod_self_right, Nat.mod_eq_of_lt h1]
    exact getElem!_pos z i h1
end
section
variable {P : Program} [Tab P] {N n0 : Nat} {Q : Post} {ops : Array Oper} {rest : List Oper} {σ : List (Nat × AV)} {H A : List (Nat × Nat × AV)} {O : List (Nat × Kind)} {n i : Nat}
  {d : Nat} {op : Op} {ty : TypeId} {pos : String} {af : Array Edge} {gd : Option (Nat × Bool)} {s : St}
def NewAt (P : Program) (N n0 : Nat) (s : St) (op : Op) (ty : TypeId) (K : Kind) (D : List Nat) : Prop :=
  ∀ (o : Oper), o.op = op → o.type = ty → ∀ w0 g0 a w g, Inv N n0 w0 g0 s a w g → ∃ u w' g', (execOp a.eval o).run P w = .ok (.value u) w' ∧
    Inv N n0 w0 g0 ⟨s.σ, s.H, (s.n, K) :: dropO D s.O, s.n + 1⟩ a w' g' ∧ g'.own s.n = some u
theorem rN {K : Kind} {D : List Nat} (hd : Nat.blt d N = true) (hv : NewAt P N n0 ⟨σ, H, O, n⟩ op ty K D) (k : aops P N n0 ops rest Q ⟨(d, .own n) :: σ, H, (n, K) :: dropO D O, n + 1⟩) :
    aops P N n0 ops (⟨some d, op, ty, pos, af, none⟩ :: rest) Q ⟨σ, H, O, n⟩ :=
  aops_value rfl (fun w0 g0 a w g hi => by
    obtain ⟨u, w', g', hu, hi', hr⟩ := hv ⟨some d, op, ty, pos, af, none⟩ rfl rfl w0 g0 a w g hi
    exact ⟨u, w', g', hu, hi'.put (d := some d) (v := .own n) hr hd⟩) k
theorem na_append (wr : Bool) {z : Nat} {t tx e : TypeId} {x y : Operand} {xs ys : List (List AV)} {D : List Nat} {i je : TI} (ht : ti P t = some i) (hk : i.k = .slice e)
    (he : ti P e = some je) (hz : Nat.beq je.size z = true) (hzs : Nat.beq je.zero.length z = true) (hz0 : Nat.blt 0 je.bytes = true) (hb : BaseV s wr z x xs D) (hy : SrcV P s wr z tx y ys) (hw : Wide z ys) (h1 : Ones ys)
    (hbytes : (xs.length + ys.length) * je.bytes ≤ 140737488355328) : NewAt P N n0 s (.call ⟨.builtin .append, #[x, y], #[t, tx]⟩) ty (mkRow wr z (xs ++ ys)) D := by
  rintro ⟨dst, op, type, pos, after, guard⟩ rfl rfl w0 g0 a w g hi
  obtain ⟨v, w', g', hrun, hi', ho⟩ := append_sound (ty := type) hi ht hk he hz hzs hz0 hb hy hw h1 hbytes
  exact ⟨v, w', g', run_valueW (by simpa using hrun), hi', ho⟩
theorem na_build (wr : Bool) {t e : TypeId} {len : Nat} {parts : Array (Nat × Operand)} {i je : TI} {rows : List (List AV)} (ht : ti P t = some i) (hk : i.k = .slice e) (he : ti P e = some je) (hzs : Nat.beq je.zero.length je.size = true)
    (hz0 : Nat.blt 0 je.size = true) (hsz : Nat.ble (len * je.size) 16777216 = true)
    (hr : rowsv je.size (List.replicate len je.zero) (parts.toList.map fun p => (p.1, if wr then ev s.σ p.2 else evs s p.2)) = some rows) (hl : wr = true ∨ limLL 0 rows = true) :
    NewAt P N n0 s (.buildSlice t len parts) ty (mkRow wr je.size rows) [] := by
  rintro ⟨dst, op, type, pos, after, guard⟩ rfl rfl w0 g0 a w g hi
  obtain ⟨_, _, _, h2⟩ := ti_tells ht
  obtain ⟨inf, _, zv, h3⟩ := ti_tells he
  have hu : P.underlying t = some (.slice e) := by rw [h2.und, h2.desc_slice hk]
  simp only [Nat.beq_eq, Nat.ble_eq, Nat.blt_eq] at hzs hsz hz0
  have hzc : zv.cells.size = je.size := by
    have := h3.zeros
    rw [this] at hzs
    simpa using hzs
  have hzr : RepL w g (List.replicate len je.zero).flatten ((Array.range (len * je.size)).map (zv.cells[· % zv.cells.size]!)).toList := by
    rw [← hzc, zero_cells, h3.zeros]
    exact rep_zeros (rep_consts w g _) len
  have hwz : Wide je.size (List.replicate len je.zero) := fun r hr => by
    obtain ⟨_, rfl⟩ := List.mem_replicate.1 hr
    exact hzs
  obtain ⟨rs, h4, h5, h6, h7⟩ := rowsv_sound hi.wf.ownSl (parts := parts.toList.map fun p => (p.1, if wr then ev s.σ p.2 else evs s p.2)) (vals := parts.toList.map fun p => (p.1, a.eval p.2))
    (us := (Array.range (len * je.size)).map (zv.cells[· % zv.cells.size]!)) (by simp) (fun k p q h1 h2 => by
      simp only [List.getElem?_map, Option.map_eq_some_iff] at h1 h2
      obtain ⟨p', hp', rfl⟩ := h1
      obtain ⟨q', hq', rfl⟩ := h2
      obtain rfl : p' = q' := by rw [hp'] at hq'; exact Option.some.inj hq'
      refine ⟨rfl, ?_⟩
      cases wr
      · exact rep_evs hi p'.2
      · exact rep_ev hi.slots p'.2) hzr hwz hr
  have hG : Grown w { w with heap := w.heap.push (.cells (rs.toList ++ []).toArray e (0, 0)) } (.cells (rs.toList ++ []).toArray e (0, 0)) := ⟨rfl, rfl, rfl, rfl⟩
  have hlen : rows.length = len := by simpa using h7
  have hrl : RepL w (if wr then g else G.ofTop g.top) rows.flatten rs.toList := by
    cases wr with
    | true => exact h5
    | false =>
      rcases hl with hl | hl
      · cases hl
      · exact RepL.closed hi.wf (limLL_flatten hl) h5
  obtain ⟨g', k1, k2, _⟩ := hi.newRow wr [] (fun _ h => by cases h) (.inl rfl) hG h6 (cap := len) (by omega) (by rw [hrl.length, h6.flatten_length, hlen]; simp) hrl
  refine ⟨_, _, g', run_valueW (u := .slice (some ⟨w.heap.size, 0, none⟩) len len) ?_, k1, by rw [k2, hlen]⟩
  have hmap : (parts.map fun p => (p.1, a.eval p.2)).toList = parts.toList.map fun p => (p.1, a.eval p.2) := by simp
  have hns : ¬ (len * inf.size > 2 ^ 24) := by rw [← h3.size]; omega
  have hsize : (sizeOf e).run P w = .ok inf.size w := by rw [h3.run_size, h3.size]
  rw [← hmap, h3.size] at h4
  by_cases h0 : len * inf.size = 0
  · have hr0 : Array.range 0 = #[] := rfl
    rw [h0, hr0, Array.map_empty] at h4
    simp only [Instr.buildSlice, Sem.run_bind, run_underlying hu, Result.andThen_ok, hsize]
    rw [if_neg hns]
    simp only [h0, if_true, Sem.run_pure, Result.andThen_ok, hr0, Array.map_empty, h4, newRow]
    simp
  · simp only [Instr.buildSlice, Sem.run_bind, run_underlying hu, Result.andThen_ok, hsize]
    rw [if_neg hns]
    simp only [if_neg h0, Sem.run_bind, h3.run_zero, Sem.run_pure, Result.andThen_ok, h4, newRow]
    simp
theorem na_bytes (wr : Bool) {src dst' e : TypeId} {x : Operand} {b : ByteArray} {j je jd : TI} (ht : ti P dst' = some j) (hk : j.k = .slice e) (he : ti P e = some je) (hke : je.k = .int .u8) (hd : ti P src = some jd) (hkd : jd.k = .str)
    (hx : evs s x = .str b) : NewAt P N n0 s (.convert src dst' x) ty (mkRow wr 1 (bytesR b)) [] := by
  rintro ⟨dst, op, type, pos, after, guard⟩ rfl rfl w0 g0 a w g hi
  obtain ⟨_, _, _, h2⟩ := ti_tells ht
  obtain ⟨_, _, _, h3⟩ := ti_tells he
  obtain ⟨_, _, _, h4⟩ := ti_tells hd
  have hu : P.underlying dst' = some (.slice e) := by rw [h2.und, h2.desc_slice hk]
  have hue : P.underlying e = some (.int .u8) := by rw [h3.und, h3.desc_int hke]
  have hud : P.underlying src = some .string := by rw [h4.und, h4.desc_str hkd]
  have r1 := rep_evs hi x
  rw [hx] at r1
  have e1 : a.eval x = .string b := r1
  have hrun := run_bytes_of_string (P := P) w src dst' e b hud hu hue
  let C := grownCap w b.size 0 e
  have hge : b.size ≤ C := grownCap_ge w _ 0 e
  have hrow : bytesRow b C = ((byteCells b) ++ List.replicate (C - b.size) (Value.int .u8 0)).toArray := by
    simp [bytesRow, byteCells]
  have hlen : (byteCells b).length = b.size := byteCells_length b
  have hG : Grown w (w.drew.alloc (.cells (bytesRow b C) e ((bytesRow b C).size, (bytesRow b C).size + 1))) (.cells ((byteCells b) ++ List.replicate (C - b.size) (Value.int .u8 0)).toArray e ((bytesRow b C).size, (bytesRow b C).size + 1)) :=
    ⟨by rw [← hrow]; rfl, rfl, rfl, rfl⟩
  have hrl : RepL w (if wr then g else G.ofTop g.top) (bytesR b).flatten (byteCells b) := by rw [bytesR_flat]; exact byteCells_rep _ _
  have hbl := bytesR_length b
  obtain ⟨g', k1, k2, _⟩ := hi.newRow wr [] (fun _ h => by cases h) (.inr (by rw [hrow]; simp only [List.size_toArray, List.length_append]; exact Nat.le_refl _)) hG (bytesR_plain b).wide (cap := C) (by omega)
    (by rw [hlen, List.length_replicate, Nat.mul_one]; omega) hrl
  refine ⟨_, _, g', run_valueW (u := .slice (some ⟨w.heap.size, 0, none⟩) b.size C) ?_, k1, by rw [k2, hbl]⟩
  rw [e1]; exact hrun
end
end Go.Pv
namespace Go.Pv
open Go.RowKit (Below)
set_option linter.unusedSimpArgs false
set_option linter.unusedSectionVars false
set_option linter.unusedVariables false
section
variable {P : Program} [Tab P] {N n0 : Nat} {Q : Post} {ops : Array Oper} {rest : List Oper} {σ : List (Nat × AV)} {H A : List (Nat × Nat × AV)} {O : List (Nat × Kind)} {n i : Nat}
  {d : Nat} {op : Op} {ty : TypeId} {pos : String} {af : Array Edge} {gd : Option (Nat × Bool)} {s : St} {c : Code} {w0 : World} {g0 : G} {a : Act} {w : World} {g : G}
theorem awp_conv {s' : St} (h : ∀ w0 g0 a w g, Inv N n0 w0 g0 s a w g → ∃ g', Inv N n0 w0 g0 s' a w g') (k : awp P N n0 c Q s') : awp P N n0 c Q s := fun w0 g0 a w g hi => by
  obtain ⟨g', hi'⟩ := h w0 g0 a w g hi
  exact k w0 g0 a w g' hi'
theorem nilS_slot (wr : Bool) (z t : Nat) (ht : lk σ t = .nilS) (hi : Inv N n0 w0 g0 ⟨σ, H, O, n⟩ a w g) : ∃ g', Inv N n0 w0 g0 ⟨(t, .own n) :: σ, H, (n, mkRow wr z []) :: O, n + 1⟩ a w g' := by
  obtain ⟨g', k1, k2, _⟩ := hi.newNone wr z [] (fun _ h => by cases h)
  have hd : dropO [] O = O := by
    have : ∀ O : List (Nat × Kind), dropO [] O = O := fun O => by
      induction O with
      | nil => rfl
      | cons e O ih => simp [dropO, idx, ih]
    exact this O
  refine ⟨g', ?_⟩
  have hr := hi.slots t
  rw [show lk (St.mk σ H O n).σ t = .nilS from ht] at hr
  have hv : a.tmps.getD t undef = .slice none 0 0 := hr
  have k1' : Inv N n0 w0 g0 ⟨σ, H, (n, mkRow wr z []) :: O, n + 1⟩ a w g' := by simpa only [hd] using k1
  exact k1'.putS (v := .own n) (by rw [hv]; exact k2)
theorem nilS_cell (wr : Bool) (z id off : Nat) (ht : lkH H id off = some .nilS) (hi : Inv N n0 w0 g0 ⟨σ, H, O, n⟩ a w g) : ∃ g', Inv N n0 w0 g0 ⟨σ, (id, off, .own n) :: H, (n, mkRow wr z []) :: O, n + 1⟩ a w g' := by
  obtain ⟨g', k1, k2, _⟩ := hi.newNone wr z [] (fun _ h => by cases h)
  have hd : dropO [] O = O := by
    have : ∀ O : List (Nat × Kind), dropO [] O = O := fun O => by
      induction O with
      | nil => rfl
      | cons e O ih => simp [dropO, idx, ih]
    exact this O
  have k1' : Inv N n0 w0 g0 ⟨σ, H, (n, mkRow wr z []) :: O, n + 1⟩ a w g' := by simpa only [hd] using k1
  refine ⟨g', { k1' with cells := fun i p x hx => ?_ }⟩
  simp only [lkH] at hx
  split at hx
  · rename_i hc
    simp only [Bool.and_eq_true, Nat.beq_eq] at hc
    obtain ⟨rfl, rfl⟩ := hc
    obtain rfl := Option.some.inj hx
    obtain ⟨b, cc, e, hb, hw, v, hv, r⟩ := k1'.cells id off .nilS ht
    have hv' : v = .slice none 0 0 := r
    exact ⟨b, cc, e, hb, hw, v, hv, by rw [hv']; exact k2⟩
  · exact k1'.cells i p x hx
theorem rnil {t t2 : TypeId} {x : Operand} {xs : List (List AV)} {j : TI} {e : TypeId} (hd : Nat.blt d N = true) (ht : ti P t = some j) (hk : j.k = .slice e) (hx : evs ⟨σ, H, O, n⟩ x = .sl xs)
    (k : ∀ b : Bool, (b = true → xs = []) → aops P N n0 ops rest Q ⟨(d, .bool b) :: σ, H, O, n⟩) :
    aops P N n0 ops (⟨some d, .binOp .eql t x (.const (.slice none 0 0)) t2, ty, pos, af, none⟩ :: rest) Q ⟨σ, H, O, n⟩ := by
  intro w0 g0 a w g hi
  obtain ⟨_, _, _, h1⟩ := ti_tells ht
  have hdd := h1.desc_slice hk
  have r := rep_evs hi x
  rw [hx] at r
  obtain ⟨ad, cap, e1, hc, hn, had⟩ := r
  have hrun : (execOp a.eval ⟨some d, .binOp .eql t x (.const (.slice none 0 0)) t2, ty, pos, af, none⟩).run P w = .ok (.value (.bool ad.isNone)) w := by
    refine run_value ?_
    rw [e1]
    have hu : P.underlying t = some (.slice e) := by rw [h1.und, hdd]
    have he : Act.eval a (.const (.slice none 0 0)) = .slice none 0 0 := rfl
    rw [he]
    have := (run_eql_odd (P := P) (w := w) (t := t) (u := .slice ad xs.length cap) (v := .slice none 0 0) (r := ad.isNone) rfl (by
      simp only [Op.equal, Op.maxDepth]; rw [Op.equalIn]
      cases ad <;> simp only [Sem.run_bind, run_underlying hu, Result.andThen_ok, Sem.run_pure, Option.isNone])).1
    simp only [Sem.run_bind, eqGuard_at_slice, Sem.run_pure, Result.andThen_ok]
    exact this
  exact wpList_value (o := ⟨some d, .binOp .eql t x (.const (.slice none 0 0)) t2, ty, pos, af, none⟩) rfl hrun
    (k ad.isNone (fun hb => hn (by simpa using hb)) w0 g0 _ w g (hi.put (s := ⟨σ, H, O, n⟩) (d := some d) (v := .bool ad.isNone) rfl hd))
end
theorem orow {O : List (Nat × Kind)} {L : List Nat} {i z : Nat} {xs xs' : List (List AV)} (h : lkO O (rho L 0 i) = some (.row z xs')) (e : xs' = xs) (hb : Nat.blt i L.length = true) :
    (∃ K', lkO O (rho L 0 i) = some K' ∧ KR (rho L 0) L.length (.row z xs) K') ∧ Nat.blt i L.length = true := by
  subst e; exact ⟨⟨_, h, .row⟩, hb⟩
theorem rrA {P : Program} [Tab P] {m : Nat} {rs : List ResultVar} {K : AV → List (Nat × Nat × AV) → List (Nat × Kind) → Nat → Prop} {s : St} (L : List Nat) (H : List (Nat × Nat × AV)) (O : List (Nat × Kind)) {r : AV}
    (h : resv P s rs = some (r.ren (rho L 0))) (hl : r.lim L.length = true) (hk : keepsTo m L 0 = true) (hg : good s.n L = true) (hH : SubHR s.H s.O L H) (hO : SubOR s.O L O) (k : K r H O L.length) : retPostA P m rs K .ret s :=
  ⟨r, L, ⟨[], H, O, L.length⟩, .inl h, hl, hk, ⟨hg, rfl, trivial, hH, hO⟩, k⟩
theorem rrA' {P : Program} [Tab P] {m : Nat} {rs : List ResultVar} {K : AV → List (Nat × Nat × AV) → List (Nat × Kind) → Nat → Prop} {s : St} (L : List Nat) (H : List (Nat × Nat × AV)) (O : List (Nat × Kind)) {r : AV}
    (h : resv P s rs = some (r.ren (rho L 0))) (hl : r.lim L.length = true) (hk : keepsTo m L 0 = true) (hg : good s.n L = true) (hH : SubHR s.H s.O L H) (hO : SubOR s.O L O) (k : K r H O L.length) : retPostA P m rs K .normal s :=
  ⟨r, L, ⟨[], H, O, L.length⟩, .inl h, hl, hk, ⟨hg, rfl, trivial, hH, hO⟩, k⟩
end Go.Pv
namespace Go.Pv
set_option linter.unusedSimpArgs false
set_option linter.unusedSectionVars false
set_option linter.unusedVariables false
theorem esl {a b : List (List AV)} (h : a = b) : AV.sl a = AV.sl b := by rw [h]
theorem estr {a b : ByteArray} (h : a = b) : AV.str a = AV.str b := by rw [h]
def nfLL {β : Type} : List (List AV) → (List (List AV) → Option β) → Option β
  | [], k => k []
  | x :: r, k => nfL x fun x' => nfLL r fun r' => k (x' :: r')
theorem nfLL_eq {β : Type} : ∀ (xs : List (List AV)) (k : List (List AV) → Option β), nfLL xs k = k xs
  | [], _ => rfl
  | x :: r, k => by simp only [nfLL]; rw [nfL_eq x]; exact nfLL_eq r _
def nfOLL : Option (List (List AV)) → Option (List (List AV))
  | some v => nfLL v some
  | none => none
theorem nfOLL_eq (x : Option (List (List AV))) : nfOLL x = x := by cases x <;> simp [nfOLL, nfLL_eq]
def nfN {β : Type} (n : Nat) (k : Nat → Option β) : Option β :=
  match n with
  | 0 => k 0
  | m + 1 => k (m + 1)
theorem nfN_eq {β : Type} (n : Nat) (k : Nat → Option β) : nfN n k = k n := by cases n <;> rfl
def nfHH {β : Type} : List (Nat × Nat × AV) → (List (Nat × Nat × AV) → Option β) → Option β
  | [], k => k []
  | (i, o, v) :: r, k => nfN i fun i' => nfN o fun o' => v.nf fun v' => nfHH r fun r' => k ((i', o', v') :: r')
theorem nfHH_eq {β : Type} : ∀ (xs : List (Nat × Nat × AV)) (k : List (Nat × Nat × AV) → Option β), nfHH xs k = k xs
  | [], _ => rfl
  | (i, o, v) :: r, k => by simp only [nfHH]; rw [nfN_eq, nfN_eq, AV.nf_eq]; exact nfHH_eq r _
def nfK {β : Type} : Kind → (Kind → Option β) → Option β
  | .row z xs, k => k (.row z xs)
  | .wr z xs, k => k (.wr z xs)
  | .map ks vs, k => k (.map ks vs)
  | .sem s, k => k (.sem s)
theorem nfK_eq {β : Type} (K : Kind) (k : Kind → Option β) : nfK K k = k K := by cases K <;> rfl
def nfOO {β : Type} : List (Nat × Kind) → (List (Nat × Kind) → Option β) → Option β
  | [], k => k []
  | (i, K) :: r, k => nfN i fun i' => nfK K fun K' => nfOO r fun r' => k ((i', K') :: r')
theorem nfOO_eq {β : Type} : ∀ (xs : List (Nat × Kind)) (k : List (Nat × Kind) → Option β), nfOO xs k = k xs
  | [], _ => rfl
  | (i, K) :: r, k => by simp only [nfOO]; rw [nfN_eq, nfK_eq]; exact nfOO_eq r _
section
variable {P : Program} [Tab P] {N n0 : Nat} {Q : Post} {ops : Array Oper} {rest : List Oper} {σ : List (Nat × AV)} {H H2 A : List (Nat × Nat × AV)} {O O2 : List (Nat × Kind)} {n n2 i : Nat}
  {d : Nat} {op : Op} {ty : TypeId} {pos : String} {af : Array Edge} {gd : Option (Nat × Bool)} {s : St} {c : Code}
theorem ae (hH : nfHH H some = some H2) (hO : nfOO O some = some O2) (hn : nfN n some = some n2) (k : aops P N n0 ops rest Q ⟨σ, H2, O2, n2⟩) : aops P N n0 ops rest Q ⟨σ, H, O, n⟩ := by
  rw [nfHH_eq] at hH; rw [nfOO_eq] at hO; rw [nfN_eq] at hn
  obtain rfl := Option.some.inj hH; obtain rfl := Option.some.inj hO; obtain rfl := Option.some.inj hn
  exact k
theorem as1 {v v2 : AV} (hv : v.nf some = some v2) (k : aops P N n0 ops rest Q ⟨(d, v2) :: σ, H, O, n⟩) : aops P N n0 ops rest Q ⟨(d, v) :: σ, H, O, n⟩ := by
  rw [AV.nf_eq] at hv
  obtain rfl := Option.some.inj hv
  exact k
theorem rbs (wr : Bool) {t e : TypeId} {len : Nat} {parts : Array (Nat × Operand)} {i je : TI} {rows : List (List AV)} (hd : Nat.blt d N = true) (ht : ti P t = some i) (hk : i.k = .slice e) (he : ti P e = some je) (hzs : Nat.beq je.zero.length je.size = true)
    (hz0 : Nat.blt 0 je.size = true) (hsz : Nat.ble (len * je.size) 16777216 = true)
    (hr : nfOLL (rowsv je.size (List.replicate len je.zero) (parts.toList.map fun p => (p.1, if wr then ev σ p.2 else evs ⟨σ, H, O, n⟩ p.2))) = some rows) (hl : (wr || limLL 0 rows) = true)
    (hO : nfOO O some = some O2) (k : aops P N n0 ops rest Q ⟨(d, .own n) :: σ, H, (n, mkRow wr je.size rows) :: O2, n + 1⟩) : aops P N n0 ops (⟨some d, .buildSlice t len parts, ty, pos, af, none⟩ :: rest) Q ⟨σ, H, O, n⟩ := by
  rw [nfOLL_eq] at hr
  rw [nfOO_eq] at hO
  obtain rfl := Option.some.inj hO
  have hdr : dropO [] O = O := by
    have : ∀ O : List (Nat × Kind), dropO [] O = O := fun O => by
      induction O with
      | nil => rfl
      | cons e O ih => simp [dropO, idx, ih]
    exact this O
  have hl' : wr = true ∨ limLL 0 rows = true := by simpa using hl
  have := rN (ops := ops) (rest := rest) (Q := Q) (pos := pos) (af := af) (ty := ty) hd (na_build (N := N) (n0 := n0) (s := ⟨σ, H, O, n⟩) (ty := ty) wr ht hk he hzs hz0 hsz hr hl')
  rw [hdr] at this
  exact this k
theorem rap (wr : Bool) {z : Nat} {t tx e : TypeId} {x y : Operand} {xs ys : List (List AV)} {D : List Nat} {i je : TI} (hd : Nat.blt d N = true) (ht : ti P t = some i) (hk : i.k = .slice e)
    (he : ti P e = some je) (hz : Nat.beq je.size z = true) (hzs : Nat.beq je.zero.length z = true) (hz0 : Nat.blt 0 je.bytes = true) (hb : BaseV ⟨σ, H, O, n⟩ wr z x xs D) (hy : SrcV P ⟨σ, H, O, n⟩ wr z tx y ys) (hw : Wide z ys) (h1 : Ones ys)
    (hbytes : (xs.length + ys.length) * je.bytes ≤ 140737488355328) (hO : nfOO (dropO D O) some = some O2) (k : aops P N n0 ops rest Q ⟨(d, .own n) :: σ, H, (n, mkRow wr z (xs ++ ys)) :: O2, n + 1⟩) :
    aops P N n0 ops (⟨some d, .call ⟨.builtin .append, #[x, y], #[t, tx]⟩, ty, pos, af, none⟩ :: rest) Q ⟨σ, H, O, n⟩ := by
  rw [nfOO_eq] at hO
  obtain rfl := Option.some.inj hO
  exact rN hd (na_append wr ht hk he hz hzs hz0 hb hy hw h1 hbytes) k
end
end Go.Pv
namespace Go.Pv
set_option linter.unusedSimpArgs false
set_option linter.unusedSectionVars false
set_option linter.unusedVariables false
end Go.Pv
namespace Go.Pv
open Go.ChangeShapes Go.WideShapes
set_option linter.unusedSimpArgs false
set_option linter.unusedSectionVars false
set_option linter.unusedVariables false
section
variable {P : Program} [Tab P]
theorem dat_list {α : Type} {f : α → List AV} {Q : α → Prop} {e : TypeId} (h : ∀ n r, Dat P n e r → ∃ a, r = f a ∧ Q a) : ∀ xs : List (List AV), (∀ r ∈ xs, ∃ n, Dat P n e r) → ∃ l : List α, xs = l.map f ∧ ∀ a ∈ l, Q a
  | [], _ => ⟨[], rfl, fun _ h => by cases h⟩
  | x :: xs, hx => by
    obtain ⟨n, hn⟩ := hx x (by simp)
    obtain ⟨a, rfl, qa⟩ := h n x hn
    obtain ⟨l, rfl, ql⟩ := dat_list h xs fun r hr => hx r (by simp [hr])
    exact ⟨a :: l, rfl, fun b hb => by
      rcases List.mem_cons.1 hb with rfl | hb
      · exact qa
      · exact ql b hb⟩
theorem dat_sl {n : Nat} {t e : TypeId} {i : TI} {cs : List AV} (hi : ti P t = some i) (hk : i.k = .slice e) (h : Dat P n t cs) : ∃ xs, cs = [.sl xs] ∧ xs.length ≤ maxLen ∧ ∀ r ∈ xs, ∃ n, Dat P n e r := by
  cases n with
  | zero => exact h.elim
  | succ n =>
    simp only [Dat, hi, hk] at h
    obtain ⟨xs, h1, h2, h3⟩ := h
    exact ⟨xs, h1, h2, fun r hr => ⟨n, (h3 r hr).2⟩⟩
theorem dat_str {n : Nat} {t : TypeId} {i : TI} {cs : List AV} (hi : ti P t = some i) (hk : i.k = .str) (h : Dat P n t cs) : ∃ s, cs = [.str s] ∧ s.size ≤ maxLen := by
  cases n with
  | zero => exact h.elim
  | succ n => simpa only [Dat, hi, hk] using h
end
end Go.Pv
namespace Go.Pv
set_option linter.unusedSectionVars false
set_option linter.unusedVariables false
section
variable {P : Program} [Tab P] {N n0 : Nat} {Q : Post} {ops : Array Oper} {rest : List Oper} {σ : List (Nat × AV)} {H A : List (Nat × Nat × AV)} {O : List (Nat × Kind)} {n i : Nat}
  {d : Nat} {op : Op} {ty : TypeId} {pos : String} {af : Array Edge} {gd : Option (Nat × Bool)} {s : St}
theorem ov_eq {k : IntKind} {a b : Int} (h : opv P s op = some (.int k a)) (e : a = b) : opv P s op = some (.int k b) := e ▸ h
theorem ov_rem {t t2 : TypeId} {x y : Operand} {k : IntKind} {a b c : Int} (hx : evs s x = .int k a) (hy : evs s y = .int k b) (h0 : b ≠ 0) (e : a.tmod b = c) : opv P s (.binOp .rem t x y t2) = some (.int k c) := by
  simp only [opv, hx, hy, binv, isSh, intv, if_neg h0, e]; simp
theorem dv' {K : St → Prop} {v : AV} (hd : Nat.blt d N = true) (hg : wantedS ops σ gd = some true) (hv : ∀ m, opv P ⟨restr ⟨some d, op, ty, pos, af, gd⟩ σ, H, O, m⟩ op = some v)
    (k : DP P N n0 ops H O (i + 1) rest ((d, v) :: σ) n A K) : DP P N n0 ops H O i (⟨some d, op, ty, pos, af, gd⟩ :: rest) σ n A K := by
  obtain ⟨σ', n', A', al, hp, hk⟩ := k
  exact ⟨σ', n', A', al, .go rfl hd hg (fun m => step_val (hv m)) hp, hk⟩
end
end Go.Pv
namespace Go.Pv
set_option linter.unusedSectionVars false
set_option linter.unusedVariables false
end Go.Pv
