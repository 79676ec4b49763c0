/- The rules for rows that are made, added to, and handed on. -/
import Derived.Test.YtngeejjllgnpcaaPvY
namespace Go.Pv
open Go.RowKit (Below)
set_option linter.unusedSimpArgs false
set_option linter.unusedSectionVars false
set_option linter.unusedVariables false

/-! ### rows written out -/

def rowsv (z : Nat) : List (List AV) → List (Nat × AV) → Option (List (List AV))
  | rows, [] => some rows
  | rows, (i, v) :: r => match cellsv v with
    | some cs => if Nat.beq cs.length z && Nat.blt i rows.length then rowsv z (rows.set i cs) r else none
    | none => none

theorem setL_split : ∀ (cs l : List AV) (k : Nat), k + cs.length ≤ l.length → setL l k cs = l.take k ++ cs ++ l.drop (k + cs.length)
  | [], l, k, _ => by simp [setL]
  | c :: cs, l, k, h => by
    simp only [List.length_cons] at h
    rw [setL, setL_split cs (l.set k c) (k + 1) (by simp; omega)]
    have h1 : (l.set k c).take (k + 1) = l.take k ++ [c] := by
      rw [List.take_add_one, List.take_set_of_le (Nat.le_refl _), List.getElem?_set_self (by omega)]
      rfl
    have h2 : (l.set k c).drop (k + 1 + cs.length) = l.drop (k + 1 + cs.length) := List.drop_set_of_lt (by omega)
    rw [h1, h2, show k + 1 + cs.length = k + (cs.length + 1) by omega]
    simp only [List.append_assoc, List.length_cons, List.cons_append, List.nil_append]

theorem flatten_set {z : Nat} : ∀ {rows : List (List AV)} {i : Nat} {cs : List AV}, Wide z rows → cs.length = z → i < rows.length → (rows.set i cs).flatten = setL rows.flatten (i * z) cs
  | [], i, cs, _, _, h => by simp at h
  | r :: rows, 0, cs, hw, hc, _ => by
    have h1 : r.length = z := hw r (by simp)
    rw [setL_split _ _ _ (by simp [h1, hc])]
    simp [h1, hc]
  | r :: rows, i + 1, cs, hw, hc, h => by
    have h1 : r.length = z := hw r (by simp)
    have hw' : Wide z rows := fun x hx => hw x (by simp [hx])
    have hi : i < rows.length := by simpa using h
    have ih := flatten_set hw' hc hi
    have hlen : i * z + z ≤ rows.flatten.length := by
      rw [hw'.flatten_length]
      have := Nat.mul_le_mul_right z (show i + 1 ≤ rows.length by omega)
      rw [Nat.add_mul, Nat.one_mul] at this; exact this
    simp only [List.set_cons_succ, List.flatten_cons, ih]
    rw [setL_split _ _ _ (by rw [hc]; exact hlen), setL_split _ _ _ (by simp only [List.length_append, h1, hc, Nat.add_mul, Nat.one_mul]; omega)]
    have e : (i + 1) * z = r.length + i * z := by rw [h1, Nat.add_mul, Nat.one_mul]; omega
    rw [e, List.take_length_add_append, Nat.add_assoc, List.drop_length_add_append]
    simp only [List.append_assoc]

section
variable {P : Program} [Tab P] {w : World} {g : G}

theorem rowsv_sound (hs : ∀ id v, g.own id = some v → v.oneCell' = true) {z : Nat} : ∀ {parts : List (Nat × AV)} {vals : List (Nat × Value)} {rows r : List (List AV)} {us : Array Value}, parts.length = vals.length →
    (∀ (i : Nat) (p : Nat × AV) (q : Nat × Value), parts[i]? = some p → vals[i]? = some q → p.1 = q.1 ∧ Rep w g p.2 q.2) → RepL w g rows.flatten us.toList → Wide z rows → rowsv z rows parts = some r →
    ∃ rs, Instr.fill (fun i => some (i * z, z)) us vals = some rs ∧ RepL w g r.flatten rs.toList ∧ Wide z r ∧ r.length = rows.length
  | [], vals, rows, r, us, hl, _, hc, hw, h => by
    have : vals = [] := by simpa using hl.symm
    subst this
    simp only [rowsv] at h
    obtain rfl := Option.some.inj h
    exact ⟨us, rfl, hc, hw, rfl⟩
  | (i, v) :: parts, [], _, _, _, hl, _, _, _, _ => by simp at hl
  | (i, v) :: parts, (i', u) :: vals, rows, r, us, hl, hv, hc, hw, h => by
    obtain ⟨rfl, hr⟩ := hv 0 _ _ rfl rfl
    simp only [rowsv] at h
    cases hcv : cellsv v with
    | none => simp [hcv] at h
    | some vs =>
      simp only [hcv] at h
      split at h
      · rename_i hb
        simp only [Bool.and_eq_true, Nat.beq_eq, Nat.blt_eq] at hb
        have hcells := cellsv_sound hcv hr hs
        have hlen : u.cells.size = z := by have := hcells.length; rw [hb.1] at this; simpa using this
        have hus : us.size = rows.length * z := by have := hc.length; rw [hw.flatten_length] at this; simpa using this
        have hw' : Wide z (rows.set i vs) := fun q hq => by
          rcases List.mem_or_eq_of_mem_set hq with hq | rfl
          · exact hw q hq
          · exact hb.1
        obtain ⟨rs, h1, h2, h3, h4⟩ := rowsv_sound hs (z := z) (parts := parts) (vals := vals) (rows := rows.set i vs)
          (us := u.cells.zipIdx.foldl (fun (cs : Array Value) (p : Value × Nat) => cs.setIfInBounds (i * z + p.2) p.1) us) (r := r) (by simpa using hl)
          (fun k p q h1 h2 => hv (k + 1) p q (by simpa using h1) (by simpa using h2)) (by
            have := setL_sound (off := i * z) (k := 0) (cs := rows.flatten) (us := us.toList) hc hcells
            rw [← Array.foldl_toList, Array.toList_zipIdx, foldl_set, flatten_set hw hb.1 hb.2]
            simpa using this) hw' h
        refine ⟨rs, ?_, h2, h3, by simpa using h4⟩
        have hle : i * z + z ≤ us.size := by
          rw [hus]
          have := Nat.mul_le_mul_right z (show i + 1 ≤ rows.length by omega)
          rw [Nat.add_mul, Nat.one_mul] at this; exact this
        simp only [Instr.fill, hlen, ne_eq, not_true_eq_false, decide_false, Bool.false_or]
        rw [if_neg (by simp; omega)]
        exact h1
      · cases h

theorem rep_zeros {zs : List Value} (hz : RepL w g (zs.map ofConst) zs) : ∀ len, RepL w g (List.replicate len (zs.map ofConst)).flatten (List.replicate len zs).flatten
  | 0 => by simp [RepL]
  | len + 1 => by
    simp only [List.replicate_succ, List.flatten_cons]
    exact RepL.append hz (rep_zeros hz len)

theorem rep_consts (w : World) (g : G) : ∀ l : List Value, RepL w g (l.map ofConst) l
  | [] => rfl
  | v :: l => ⟨v, l, rfl, rep_const v, rep_consts w g l⟩

theorem zero_cells (z : Array Value) : ∀ len, ((Array.range (len * z.size)).map (z[· % z.size]!)).toList = (List.replicate len z.toList).flatten := by
  intro len
  have h1 : ((Array.range (len * z.size)).map (z[· % z.size]!)).toList = (List.range (len * z.size)).map (z[· % z.size]!) := by simp
  rw [h1]
  induction len with
  | zero => simp
  | succ len ih =>
    rw [Nat.add_mul, Nat.one_mul, List.range_add, List.map_append, ih (by simp), List.replicate_succ', List.flatten_append]
    congr 1
    simp only [List.map_map, List.flatten_cons, List.flatten_nil, List.append_nil]
    refine List.ext_getElem (by simp) fun i h1 h2 => ?_
    simp only [List.length_map, List.length_range] at h1
    simp only [List.getElem_map, List.getElem_range, Function.comp, Array.getElem_toList]
    rw [Nat.mul_add_mod_self_right, Nat.mod_eq_of_lt h1]
    exact getElem!_pos z i h1
end

section
variable {P : Program} [Tab P] {N n0 : Nat} {Q : Post} {ops : Array Oper} {rest : List Oper} {σ : List (Nat × AV)} {H A : List (Nat × Nat × AV)} {O : List (Nat × Kind)} {n i : Nat}
  {d : Nat} {op : Op} {ty : TypeId} {pos : String} {af : Array Edge} {gd : Option (Nat × Bool)} {s : St}

/-- An operation whose answer is a new thing of the call's own; D are those that it takes the place of. -/
def NewAt (P : Program) (N n0 : Nat) (s : St) (op : Op) (ty : TypeId) (K : Kind) (D : List Nat) : Prop :=
  ∀ (o : Oper), o.op = op → o.type = ty → ∀ w0 g0 a w g, Inv N n0 w0 g0 s a w g → ∃ u w' g', (execOp a.eval o).run P w = .ok (.value u) w' ∧
    Inv N n0 w0 g0 ⟨s.σ, s.H, (s.n, K) :: dropO D s.O, s.n + 1⟩ a w' g' ∧ g'.own s.n = some u

theorem rN {K : Kind} {D : List Nat} (hd : Nat.blt d N = true) (hv : NewAt P N n0 ⟨σ, H, O, n⟩ op ty K D) (k : aops P N n0 ops rest Q ⟨(d, .own n) :: σ, H, (n, K) :: dropO D O, n + 1⟩) :
    aops P N n0 ops (⟨some d, op, ty, pos, af, none⟩ :: rest) Q ⟨σ, H, O, n⟩ :=
  aops_value rfl (fun w0 g0 a w g hi => by
    obtain ⟨u, w', g', hu, hi', hr⟩ := hv ⟨some d, op, ty, pos, af, none⟩ rfl rfl w0 g0 a w g hi
    exact ⟨u, w', g', hu, hi'.put (d := some d) (v := .own n) hr hd⟩) k

/-- Something is added to a row. -/
theorem na_append (wr : Bool) {z : Nat} {t tx e : TypeId} {x y : Operand} {xs ys : List (List AV)} {D : List Nat} {i je : TI} (ht : ti P t = some i) (hk : i.k = .slice e)
    (he : ti P e = some je) (hz : Nat.beq je.size z = true) (hzs : Nat.beq je.zero.length z = true) (hz0 : Nat.blt 0 je.bytes = true) (hb : BaseV s wr z x xs D) (hy : SrcV P s wr z tx y ys) (hw : Wide z ys) (h1 : Ones ys)
    (hbytes : (xs.length + ys.length) * je.bytes ≤ 140737488355328) : NewAt P N n0 s (.call ⟨.builtin .append, #[x, y], #[t, tx]⟩) ty (mkRow wr z (xs ++ ys)) D := by
  rintro ⟨dst, op, type, pos, after, guard⟩ rfl rfl w0 g0 a w g hi
  obtain ⟨v, w', g', hrun, hi', ho⟩ := append_sound (ty := type) hi ht hk he hz hzs hz0 hb hy hw h1 hbytes
  exact ⟨v, w', g', run_valueW (by simpa using hrun), hi', ho⟩

/-- A row written out. -/
theorem na_build (wr : Bool) {t e : TypeId} {len : Nat} {parts : Array (Nat × Operand)} {i je : TI} {rows : List (List AV)} (ht : ti P t = some i) (hk : i.k = .slice e) (he : ti P e = some je) (hzs : Nat.beq je.zero.length je.size = true)
    (hz0 : Nat.blt 0 je.size = true) (hsz : Nat.ble (len * je.size) 16777216 = true)
    (hr : rowsv je.size (List.replicate len je.zero) (parts.toList.map fun p => (p.1, if wr then ev s.σ p.2 else evs s p.2)) = some rows) (hl : wr = true ∨ limLL 0 rows = true) :
    NewAt P N n0 s (.buildSlice t len parts) ty (mkRow wr je.size rows) [] := by
  rintro ⟨dst, op, type, pos, after, guard⟩ rfl rfl w0 g0 a w g hi
  obtain ⟨_, _, _, h2⟩ := ti_tells ht
  obtain ⟨inf, _, zv, h3⟩ := ti_tells he
  have hu : P.underlying t = some (.slice e) := by rw [h2.und, h2.desc_slice hk]
  simp only [Nat.beq_eq, Nat.ble_eq, Nat.blt_eq] at hzs hsz hz0
  have hzc : zv.cells.size = je.size := by
    have := h3.zeros
    rw [this] at hzs
    simpa using hzs
  have hzr : RepL w g (List.replicate len je.zero).flatten ((Array.range (len * je.size)).map (zv.cells[· % zv.cells.size]!)).toList := by
    rw [← hzc, zero_cells, h3.zeros]
    exact rep_zeros (rep_consts w g _) len
  have hwz : Wide je.size (List.replicate len je.zero) := fun r hr => by
    obtain ⟨_, rfl⟩ := List.mem_replicate.1 hr
    exact hzs
  obtain ⟨rs, h4, h5, h6, h7⟩ := rowsv_sound hi.wf.ownSl (parts := parts.toList.map fun p => (p.1, if wr then ev s.σ p.2 else evs s p.2)) (vals := parts.toList.map fun p => (p.1, a.eval p.2))
    (us := (Array.range (len * je.size)).map (zv.cells[· % zv.cells.size]!)) (by simp) (fun k p q h1 h2 => by
      simp only [List.getElem?_map, Option.map_eq_some_iff] at h1 h2
      obtain ⟨p', hp', rfl⟩ := h1
      obtain ⟨q', hq', rfl⟩ := h2
      obtain rfl : p' = q' := by rw [hp'] at hq'; exact Option.some.inj hq'
      refine ⟨rfl, ?_⟩
      cases wr
      · exact rep_evs hi p'.2
      · exact rep_ev hi.slots p'.2) hzr hwz hr
  have hG : Grown w { w with heap := w.heap.push (.cells (rs.toList ++ []).toArray e (0, 0)) } (.cells (rs.toList ++ []).toArray e (0, 0)) := ⟨rfl, rfl, rfl, rfl⟩
  have hlen : rows.length = len := by simpa using h7
  have hrl : RepL w (if wr then g else G.ofTop g.top) rows.flatten rs.toList := by
    cases wr with
    | true => exact h5
    | false =>
      rcases hl with hl | hl
      · cases hl
      · exact RepL.closed hi.wf (limLL_flatten hl) h5
  obtain ⟨g', k1, k2, _⟩ := hi.newRow wr [] (fun _ h => by cases h) (.inl rfl) hG h6 (cap := len) (by omega) (by rw [hrl.length, h6.flatten_length, hlen]; simp) hrl
  refine ⟨_, _, g', run_valueW (u := .slice (some ⟨w.heap.size, 0, none⟩) len len) ?_, k1, by rw [k2, hlen]⟩
  have hmap : (parts.map fun p => (p.1, a.eval p.2)).toList = parts.toList.map fun p => (p.1, a.eval p.2) := by simp
  have hns : ¬ (len * inf.size > 2 ^ 24) := by rw [← h3.size]; omega
  have hsize : (sizeOf e).run P w = .ok inf.size w := by rw [h3.run_size, h3.size]
  rw [← hmap, h3.size] at h4
  by_cases h0 : len * inf.size = 0
  · have hr0 : Array.range 0 = #[] := rfl
    rw [h0, hr0, Array.map_empty] at h4
    simp only [Instr.buildSlice, Sem.run_bind, run_underlying hu, Result.andThen_ok, hsize]
    rw [if_neg hns]
    simp only [h0, if_true, Sem.run_pure, Result.andThen_ok, hr0, Array.map_empty, h4, newRow]
    simp
  · simp only [Instr.buildSlice, Sem.run_bind, run_underlying hu, Result.andThen_ok, hsize]
    rw [if_neg hns]
    simp only [if_neg h0, Sem.run_bind, h3.run_zero, Sem.run_pure, Result.andThen_ok, h4, newRow]
    simp

/-- A row of zeros. -/
theorem na_make (wr : Bool) {t e : TypeId} {x y : Operand} {i je : TI} {kx ky : IntKind} {len : Nat} (ht : ti P t = some i) (hk : i.k = .slice e) (he : ti P e = some je) (hzs : Nat.beq je.zero.length je.size = true) (hl : wr = true ∨ limL 0 je.zero = true)
    (hx : ev s.σ x = .int kx (len : Int)) (hy : ev s.σ y = .int ky (len : Int)) (hb : je.bytes * len ≤ 140737488355328) (hb0 : Nat.blt 0 je.bytes = true) : NewAt P N n0 s (.makeSlice t x y) ty (mkRow wr je.size (List.replicate len je.zero)) [] := by
  rintro ⟨dst, op, type, pos, after, guard⟩ rfl rfl w0 g0 a w g hi
  obtain ⟨_, _, _, h2⟩ := ti_tells ht
  obtain ⟨inf, _, zv, h3⟩ := ti_tells he
  have hu : P.underlying t = some (.slice e) := by rw [h2.und, h2.desc_slice hk]
  simp only [Nat.beq_eq, Nat.blt_eq] at hzs hb0
  have hzc : zv.cells.size = je.size := by
    have := h3.zeros
    rw [this] at hzs
    simpa using hzs
  have r1 := rep_ev hi.slots x
  rw [hx] at r1
  have r2 := rep_ev hi.slots y
  rw [hy] at r2
  have e1 : a.eval x = .int kx (len : Int) := r1
  have e2 : a.eval y = .int ky (len : Int) := r2
  have hb' : (inf.bytes : Int) * (len : Int) ≤ 281474976710656 := by
    rw [← h3.bytes]
    have : ((je.bytes * len : Nat) : Int) ≤ 281474976710656 := by omega
    rwa [Int.natCast_mul] at this
  have hle : len ≤ je.bytes * len := Nat.le_mul_of_pos_left _ hb0
  have hrun := run_make (P := P) w t e inf zv hu h3.info h3.zero kx ky (len : Int) (len : Int) (by omega) (Int.le_refl _) hb' (by omega)
  have hzr : RepL w g (List.replicate len je.zero).flatten (madeCells zv.cells (len * inf.size)).toList := by
    rw [← h3.size, ← hzc]
    unfold madeCells
    rw [zero_cells, h3.zeros]
    exact rep_zeros (rep_consts w g _) len
  have hwz : Wide je.size (List.replicate len je.zero) := fun r hr => by
    obtain ⟨_, rfl⟩ := List.mem_replicate.1 hr
    exact hzs
  have hG : Grown w (w.alloc (.cells ((madeCells zv.cells (len * inf.size)).toList ++ []).toArray e (0, 0))) (.cells ((madeCells zv.cells (len * inf.size)).toList ++ []).toArray e (0, 0)) := ⟨rfl, rfl, rfl, rfl⟩
  have hrl : RepL w (if wr then g else G.ofTop g.top) (List.replicate len je.zero).flatten (madeCells zv.cells (len * inf.size)).toList := by
    cases wr with
    | true => exact hzr
    | false =>
      rcases hl with hl | hl
      · cases hl
      · refine RepL.closed hi.wf (limLL_flatten ?_) hzr
        clear hzr hwz hG hb hb' hle hrun hx hy r1 r2 e1 e2
        induction len with
        | zero => rfl
        | succ len ih => simp only [List.replicate_succ, limLL, hl, ih, Bool.and_self]
  obtain ⟨g', k1, k2, _⟩ := hi.newRow wr [] (fun _ h => by cases h) (.inl rfl) hG hwz (cap := len) (by simp) (by rw [hrl.length, hwz.flatten_length]; simp) hrl
  refine ⟨_, _, g', run_valueW (u := .slice (some ⟨w.heap.size, 0, none⟩) len len) ?_, k1, by rw [k2]; simp⟩
  rw [e1, e2, hrun]
  simp

/-- A text's bytes as a row. -/
theorem na_bytes (wr : Bool) {src dst' e : TypeId} {x : Operand} {b : ByteArray} {j je jd : TI} (ht : ti P dst' = some j) (hk : j.k = .slice e) (he : ti P e = some je) (hke : je.k = .int .u8) (hd : ti P src = some jd) (hkd : jd.k = .str)
    (hx : evs s x = .str b) : NewAt P N n0 s (.convert src dst' x) ty (mkRow wr 1 (bytesR b)) [] := by
  rintro ⟨dst, op, type, pos, after, guard⟩ rfl rfl w0 g0 a w g hi
  obtain ⟨_, _, _, h2⟩ := ti_tells ht
  obtain ⟨_, _, _, h3⟩ := ti_tells he
  obtain ⟨_, _, _, h4⟩ := ti_tells hd
  have hu : P.underlying dst' = some (.slice e) := by rw [h2.und, h2.desc_slice hk]
  have hue : P.underlying e = some (.int .u8) := by rw [h3.und, h3.desc_int hke]
  have hud : P.underlying src = some .string := by rw [h4.und, h4.desc_str hkd]
  have r1 := rep_evs hi x
  rw [hx] at r1
  have e1 : a.eval x = .string b := r1
  have hrun := run_bytes_of_string (P := P) w src dst' e b hud hu hue
  let C := grownCap w b.size 0 e
  have hge : b.size ≤ C := grownCap_ge w _ 0 e
  have hrow : bytesRow b C = ((byteCells b) ++ List.replicate (C - b.size) (Value.int .u8 0)).toArray := by
    simp [bytesRow, byteCells]
  have hlen : (byteCells b).length = b.size := byteCells_length b
  have hG : Grown w (w.drew.alloc (.cells (bytesRow b C) e ((bytesRow b C).size, (bytesRow b C).size + 1))) (.cells ((byteCells b) ++ List.replicate (C - b.size) (Value.int .u8 0)).toArray e ((bytesRow b C).size, (bytesRow b C).size + 1)) :=
    ⟨by rw [← hrow]; rfl, rfl, rfl, rfl⟩
  have hrl : RepL w (if wr then g else G.ofTop g.top) (bytesR b).flatten (byteCells b) := by rw [bytesR_flat]; exact byteCells_rep _ _
  have hbl := bytesR_length b
  obtain ⟨g', k1, k2, _⟩ := hi.newRow wr [] (fun _ h => by cases h) (.inr (by rw [hrow]; simp only [List.size_toArray, List.length_append]; exact Nat.le_refl _)) hG (bytesR_plain b).wide (cap := C) (by omega)
    (by rw [hlen, List.length_replicate, Nat.mul_one]; omega) hrl
  refine ⟨_, _, g', run_valueW (u := .slice (some ⟨w.heap.size, 0, none⟩) b.size C) ?_, k1, by rw [k2, hbl]⟩
  rw [e1]; exact hrun

/-- The rest of a row of the call's own. -/
theorem na_tail {t e : TypeId} {x : Operand} {lo : Option Operand} {z k : Nat} {xs : List (List AV)} {l : Nat} {j je : TI} (ht : ti P t = some j) (hk : j.k = .slice e) (he : ti P e = some je) (hz : Nat.beq je.size z = true)
    (hx : ev s.σ x = .own k) (hO : lkO s.O k = some (.row z xs)) (hlo : bnd s 0 lo l) (hb : l ≤ xs.length) : NewAt P N n0 s (.slice t x lo none none) ty (.row z (xs.drop l)) [k] := by
  rintro ⟨dst, op, type, pos, after, guard⟩ rfl rfl w0 g0 a w g hi
  obtain ⟨_, _, _, h2⟩ := ti_tells ht
  obtain ⟨_, _, _, h3⟩ := ti_tells he
  have hu : P.underlying t = some (.slice e) := by rw [h2.und, h2.desc_slice hk]
  simp only [Nat.beq_eq] at hz
  have r1 := rep_ev hi.slots x
  rw [hx] at r1
  obtain ⟨hw, hwd, ad, cap, q1, q2, q3, q4⟩ := hi.owns.at hO
  have e1 : a.eval x = .slice ad xs.length cap := by
    have : g.own k = some (a.eval x) := r1
    rw [q1] at this; exact (Option.some.inj this).symm
  have hbd := run_bounds (P := P) (w := w) (len := xs.length) (cap := cap) (h := xs.length) (hi := none) (bnd_val hi hlo) (by rfl) true hb q2
  let v : Value := .slice (if cap = l then ad else ad.map (·.add (l * z))) (xs.length - l) (cap - l)
  have hrun : (Instr.sliceAt t (a.eval x) (lo.map a.eval) none none).run P w = .ok v w := by
    simp only [Instr.sliceAt, Instr.slice, Sem.run_bind, run_underlying hu, Result.andThen_ok, e1, hbd, h3.run_size, Sem.run_pure, hz, v]
  have hD : ∀ i, i ∈ [k] → ∃ v, g.own i = some v := fun i hi => by
    obtain rfl : i = k := by simpa using hi
    exact ⟨_, q1⟩
  have hwd' : Wide z (xs.drop l) := fun r hr => hw r (List.mem_of_mem_drop hr)
  have hlen : (xs.drop l).length = xs.length - l := by simp
  cases had : ad with
  | none =>
    obtain ⟨rfl, rfl⟩ := q3 had
    obtain rfl : l = 0 := by simpa using hb
    obtain ⟨g', k1, k2, _⟩ := hi.newNone false z [k] hD
    exact ⟨v, w, g', run_valueW (by simpa using hrun), by simpa [mkRow] using k1, by rw [k2]; simp [v, had]⟩
  | some b =>
    obtain ⟨p1, p2, p3⟩ := q4 b had
    by_cases hcl : cap = l
    · -- nothing is left, and no room
      have hxl : xs.length = l := by omega
      obtain ⟨g', k1, k2, _⟩ := hi.newHdr (v := v) (K := .row z (xs.drop l)) (z := z) [k] hD rfl (fun g' e1 e2 e3 hm => by
        have hd : xs.drop l = [] := List.drop_eq_nil_of_le (by omega)
        refine ⟨hwd', e2, some b, 0, by rw [e1]; simp [v, hcl, had, hd, hxl], by simp [hd], (fun e => by cases e), fun b' e => ?_⟩
        rw [hd]
        exact ⟨fun h => absurd rfl h, trivial, .inl rfl⟩)
      exact ⟨v, w, g', run_valueW (by simpa using hrun), k1, k2⟩
    · rcases p3 with p3 | ⟨p3, p4⟩
      · -- a full row
        have hne : xs ≠ [] := fun e => by subst e; simp at hb p3; omega
        obtain ⟨bb, off, sp⟩ := b
        obtain rfl := p1 hne
        obtain ⟨g', k1, k2, _⟩ := hi.newHdr (v := v) (K := .row z (xs.drop l)) (z := z) [k] hD rfl (fun g' e1 e2 e3 hm => by
          refine ⟨hwd', e2, some ⟨bb, off + l * z, none⟩, cap - l, by rw [e1]; simp [v, hcl, had, addr_add], by omega, (fun e => by cases e), fun b' e => ?_⟩
          obtain rfl := Option.some.inj e
          refine ⟨fun _ => rfl, ?_, .inl (by omega)⟩
          rw [e3]
          exact RepRows.drop l hw p2 hb)
        exact ⟨v, w, g', run_valueW (by simpa using hrun), k1, k2⟩
      · -- the call's own
        obtain ⟨bb, off, sp⟩ := b
        obtain ⟨rfl, howner, c, e', fr, hc, hcs, hfz⟩ := p3
        simp only at howner hc hcs hfz p4
        have hm : l * z ≤ cap * z := Nat.mul_le_mul_right _ (by omega)
        have hm2 : l * z ≤ xs.length * z := Nat.mul_le_mul_right _ hb
        obtain ⟨g', k1, k2, _⟩ := hi.moved (k := k) (z := z) (K := .row z (xs.drop l)) (v := v) (b := bb) (w' := w) q1 howner rfl rfl rfl rfl rfl (fun _ _ => rfl) (fun _ _ => rfl) (fun g' e1 e2 e3 e4 hmm => by
          refine ⟨hwd', e2, some ⟨bb, off + l * z, none⟩, cap - l, by rw [e1]; simp [v, hcl, had, addr_add], by omega, (fun e => by cases e), fun b' e => ?_⟩
          obtain rfl := Option.some.inj e
          refine ⟨fun _ => rfl, ?_, .inr ⟨⟨rfl, e4, c, e', fr, hc, ?_, hfz⟩, ?_⟩⟩
          · rw [e3]; exact RepRows.drop l hw p2 hb
          · show off + l * z + (cap - l) * z ≤ c.size
            rw [Nat.sub_mul]; omega
          · rw [e3, p4, hlen, Nat.sub_mul]; show off + xs.length * z = off + l * z + (xs.length * z - l * z); omega)
        exact ⟨v, w, g', run_valueW (by simpa using hrun), k1, k2⟩
end
end Go.Pv
