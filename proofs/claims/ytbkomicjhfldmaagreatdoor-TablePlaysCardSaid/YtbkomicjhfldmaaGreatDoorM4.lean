/- The texts of a proof, put together by a program of this session's; names are short for the size's sake. -/
import Derived.Laws.IdiomStrings
import Derived.Test.YtbkomicjhfldmaaGreatDoorM3
namespace Go.Pv
open Go.RowKit (Below)
set_option linter.unusedSimpArgs false
set_option linter.unusedSectionVars false
set_option linter.unusedVariables false
section
variable {P : Program} [dI P] {N n0 : Nat} {Q : bY} {ops : Array Oper} {rest : List Oper} {σ : List (Nat × AV)} {H A : List (Nat × Nat × AV)} {O : List (Nat × Kind)} {n i : Nat}
 {d : Nat} {op : Op} {ty : TypeId} {pos : String} {af : Array Edge} {gd : Option (Nat × Bool)} {s : St}
def eV (P : Program) (N n0 : Nat) (s : St) (op : Op) (v : AV) : Prop :=
 ∀ (o : Oper), o.op = op → ∀ w0 g0 a w g, dh N n0 w0 g0 s a w g → ∃ u, (execOp a.eval o).run P w = .ok (.value u) w ∧ bU w g v u
theorem DM {v v' : AV} (h : eV P N n0 s op v) (e : v = v') : eV P N n0 s op v' := e ▸ h
theorem rV {v : AV} (hd : Nat.blt d N = true) (hv : eV P N n0 ⟨σ, H, O, n⟩ op v) (k : aM P N n0 ops rest Q ⟨(d, v) :: σ, H, O, n⟩) :
  aM P N n0 ops (⟨some d, op, ty, pos, af, none⟩ :: rest) Q ⟨σ, H, O, n⟩ :=
 gV rfl (fun w0 g0 a w g hi => by
  obtain ⟨u, hu, hr⟩ := hv ⟨some d, op, ty, pos, af, none⟩ rfl w0 g0 a w g hi
  exact ⟨u, w, g, hu, hi.put (d := some d) hr hd⟩) k
theorem dV {K : St → Prop} {v : AV} (hd : Nat.blt d N = true) (hg : bH ops σ gd = some true) (hv : ∀ m, eV P N n0 ⟨ci ⟨some d, op, ty, pos, af, gd⟩ σ, H, O, m⟩ op v)
  (k : DP P N n0 ops H O (i + 1) rest ((d, v) :: σ) n A K) : DP P N n0 ops H O i (⟨some d, op, ty, pos, af, gd⟩ :: rest) σ n A K := by
 obtain ⟨σ', n', A', al, hp, hk⟩ := k
 exact ⟨σ', n', A', al, .go rfl hd hg (fun m => mi fun w0 g0 a w g hi => hv m { dst := some d, op := op, type := ty, pos := pos, after := af, guard := none } rfl w0 g0 a w g hi) hp, hk⟩
def IY (b : ByteArray) (k : Int) : Int := ((b.data.toList[k.toNat]?).map fun c => (c.toNat : Int)).getD 0
theorem DK {t : TypeId} {x ix : Operand} {b : ByteArray} {k : IntKind} {iv : Int} {j : TI} (ht : ti P t = some j) (hk : j.k = .str) (hx : gj s x = .str b) (hi : ev s.σ ix = .int k iv) (h0 : 0 ≤ iv) (h1 : iv < b.size) :
  eV P N n0 s (.index t x ix) (.int .u8 (IY b iv)) := by
 rintro ⟨dst, op, type, pos, after, guard⟩ rfl w0 g0 a w g hin
 obtain ⟨_, _, _, h2⟩ := aV ht
 have hu : P.underlying t = some .string := by rw [h2.und, h2.desc_str hk]
 have r1 := dJ hin x
 rw [hx] at r1
 have r2 := bA hin.slots ix
 rw [hi] at r2
 have e1 : a.eval x = .string b := r1
 have e2 : a.eval ix = .int k iv := r2
 have hlt : iv.toNat < b.size := by omega
 have hb : b[iv.toNat]? = some b.data.toList[iv.toNat] := by
  rw [getElem?_pos b iv.toNat hlt]; rfl
 refine ⟨.int .u8 (IY b iv), bG (u := .int .u8 (IY b iv)) ?_, rfl⟩
 rw [e1, e2]
 have hl : iv.toNat < b.data.toList.length := by simpa using hlt
 simp only [Instr.index, Sem.run_bind, asIntOf, Sem.run_pure, Result.andThen_ok, run_underlying hu, if_pos h0, hb, IY, List.getElem?_eq_getElem hl]
 simp
theorem oX {w : World} {len cap l h : Nat} {lo hi : Option Value} (hlo : match lo with | some v => ∃ k, v = .int k (l : Int) | none => l = 0) (hhi : match hi with | some v => ∃ k, v = .int k (h : Int) | none => h = len)
  (b : Bool) (hlh : l ≤ h) (hc : h ≤ cap) : (Instr.sliceBounds b len cap lo hi none).run P w = .ok (l, h, cap) w := by
 have hb : ∀ {k : IntKind} {m y : Nat} {c : BoundsCode}, m ≤ y → (Instr.sliceBound (.int k (m : Int)) y c).run P w = .ok m w := fun {k m y c} hm => by
  simp only [Instr.sliceBound, asIntOf, Sem.run_bind, Sem.run_pure, Result.andThen_ok]
  rw [if_pos ⟨by omega, by omega⟩]; simp
 cases lo <;> cases hi <;> simp only at hlo hhi
 ·
  subst hlo; subst hhi
  simp [Instr.sliceBounds]
 ·
  subst hlo
  obtain ⟨k, rfl⟩ := hhi
  simp [Instr.sliceBounds, hb hc]
 ·
  subst hhi
  obtain ⟨k, rfl⟩ := hlo
  simp [Instr.sliceBounds, hb hlh]
 ·
  obtain ⟨k, rfl⟩ := hlo
  obtain ⟨k', rfl⟩ := hhi
  simp [Instr.sliceBounds, hb hc, hb hlh]
def Fm (s : St) (d : Nat) : Option Operand → Nat → Prop
 | none, l => l = d
 | some x, l => ∃ k, ev s.σ x = .int k (l : Int)
theorem p5 {w0 : World} {g0 : G} {a : Act} {w : World} {g : G} (hin : dh N n0 w0 g0 s a w g) {dd l : Nat} {x : Option Operand} (h : Fm s dd x l) :
  match x.map a.eval with | some v => ∃ k, v = .int k (l : Int) | none => l = dd := by
 cases x with
 | none => exact h
 | some x =>
  obtain ⟨k, hk⟩ := h
  have r := bA hin.slots x
  rw [hk] at r
  exact ⟨k, r⟩
theorem B1 {t : TypeId} {x : Operand} {lo hi : Option Operand} {b : ByteArray} {l h : Nat} {j : TI} (ht : ti P t = some j) (hk : j.k = .str) (hx : gj s x = .str b)
  (hlo : Fm s 0 lo l) (hhi : Fm s b.size hi h) (hlh : l ≤ h) (hb : h ≤ b.size) : eV P N n0 s (.slice t x lo hi none) (.str (b.extract l h)) := by
 rintro ⟨dst, op, type, pos, after, guard⟩ rfl w0 g0 a w g hin
 obtain ⟨_, _, _, h2⟩ := aV ht
 have hu : P.underlying t = some .string := by rw [h2.und, h2.desc_str hk]
 have r1 := dJ hin x
 rw [hx] at r1
 have e1 : a.eval x = .string b := r1
 have := oX (P := P) (w := w) (len := b.size) (cap := b.size) (p5 hin hlo) (p5 hin hhi) false hlh hb
 refine ⟨.string (b.extract l h), bG ?_, rfl⟩
 simp [Instr.sliceAt, Instr.slice, run_underlying hu, e1, this]
theorem Fh {w : World} {g : G} {z : Nat} {xs : List (List AV)} {l h m : Nat} {ad : Option Addr} {cap : Nat} (hw : eB z xs) (hlh : l ≤ h) (hh : h ≤ xs.length) (hm : h ≤ m) (hc : xs.length ≤ cap) (hn : ad = none → xs = [])
  (hrows : ∀ b, ad = some b → (xs ≠ [] → b.spot = none) ∧ bk w g.top b.block b.off xs) :
  bU w g (.sl ((xs.take h).drop l)) (.slice (if m = l then ad else ad.map (·.add (l * z))) (h - l) (m - l)) := by
 have hlen : ((xs.take h).drop l).length = h - l := by simp; omega
 refine ⟨_, m - l, by rw [hlen], by omega, fun e => ?_, fun b e => ?_⟩
 ·
  have : ad = none := by
   split at e
   · exact e
   · simpa using e
  rw [hn this]; simp
 ·
  by_cases hml : m = l
  ·
   rw [if_pos hml] at e
   have : (xs.take h).drop l = [] := List.eq_nil_of_length_eq_zero (by omega)
   rw [this]
   exact ⟨fun h => absurd rfl h, trivial⟩
  ·
   rw [if_neg hml] at e
   cases had : ad with
   | none => rw [had] at e; cases e
   | some b0 =>
    rw [had] at e
    obtain rfl := Ke e
    obtain ⟨p1, p2⟩ := hrows b0 had
    by_cases hx : xs = []
    ·
     subst hx
     exact ⟨fun h => absurd (by simp) h, by simp [bk]⟩
    ·
     obtain ⟨bb, off, sp⟩ := b0
     obtain rfl := p1 hx
     simp only [dz]
     exact ⟨fun _ => (by trivial), bk.drop (n := z) l (fun r hr => hw r (List.mem_of_mem_take hr)) (bk.take h p2) (by simp; omega)⟩
theorem zQ {t e : TypeId} {x : Operand} {lo hi : Option Operand} {xs : List (List AV)} {l h : Nat} {j je : TI} (ht : ti P t = some j) (hk : j.k = .slice e) (he : ti P e = some je) (hx : gj s x = .sl xs)
  (hlo : Fm s 0 lo l) (hhi : Fm s xs.length hi h) (hlh : l ≤ h) (hb : h ≤ xs.length) (hw : eB je.size xs) : eV P N n0 s (.slice t x lo hi none) (.sl ((xs.take h).drop l)) := by
 rintro ⟨dst, op, type, pos, after, guard⟩ rfl w0 g0 a w g hin
 obtain ⟨_, _, _, h2⟩ := aV ht
 obtain ⟨_, _, _, h3⟩ := aV he
 have hu : P.underlying t = some (.slice e) := by rw [h2.und, h2.desc_slice hk]
 have r1 := dJ hin x
 rw [hx] at r1
 obtain ⟨ad, cap, e1, hc, hn, had⟩ := r1
 have := oX (P := P) (w := w) (len := xs.length) (cap := cap) (p5 hin hlo) (p5 hin hhi) true hlh (by omega)
 refine ⟨_, bG (u := .slice (if cap = l then ad else ad.map (·.add (l * je.size))) (h - l) (cap - l)) ?_, Fh hw hlh hb (by omega) hc hn had⟩
 simp only [Instr.sliceAt, Instr.slice, Sem.run_bind, run_underlying hu, Result.andThen_ok, e1, Option.map_none, this, h3.run_size, Sem.run_pure]
end
end Go.Pv
namespace Go.Pv
open Go.RowKit (Below)
set_option linter.unusedSimpArgs false
set_option linter.unusedSectionVars false
set_option linter.unusedVariables false
def vd (z : Nat) : List (List AV) → List (Nat × AV) → Option (List (List AV))
 | rows, [] => some rows
 | rows, (i, v) :: r => match ka v with
  | some cs => if Nat.beq cs.length z && Nat.blt i rows.length then vd z (rows.set i cs) r else none
  | none => none
theorem mc : ∀ (cs l : List AV) (k : Nat), k + cs.length ≤ l.length → mH l k cs = l.take k ++ cs ++ l.drop (k + cs.length)
 | [], l, k, _ => by simp [mH]
 | c :: cs, l, k, h => by
  simp only [List.length_cons] at h
  rw [mH, mc cs (l.set k c) (k + 1) (by simp; omega)]
  have h1 : (l.set k c).take (k + 1) = l.take k ++ [c] := by
   rw [List.take_add_one, List.take_set_of_le (Nat.le_refl _), List.getElem?_set_self (by omega)]
   rfl
  have h2 : (l.set k c).drop (k + 1 + cs.length) = l.drop (k + 1 + cs.length) := List.drop_set_of_lt (by omega)
  rw [h1, h2, show k + 1 + cs.length = k + (cs.length + 1) by omega]
  simp only [List.append_assoc, List.length_cons, List.cons_append, List.nil_append]
theorem qX {z : Nat} : ∀ {rows : List (List AV)} {i : Nat} {cs : List AV}, eB z rows → cs.length = z → i < rows.length → (rows.set i cs).flatten = mH rows.flatten (i * z) cs
 | [], i, cs, _, _, h => by simp at h
 | r :: rows, 0, cs, hw, hc, _ => by
  have h1 : r.length = z := hw r (by simp)
  rw [mc _ _ _ (by simp [h1, hc])]
  simp [h1, hc]
 | r :: rows, i + 1, cs, hw, hc, h => by
  have h1 : r.length = z := hw r (by simp)
  have hw' : eB z rows := fun x hx => hw x (by simp [hx])
  have hi : i < rows.length := by simpa using h
  have ih := qX hw' hc hi
  have hlen : i * z + z ≤ rows.flatten.length := by
   rw [hw'.flatten_length]
   have := Nat.mul_le_mul_right z (show i + 1 ≤ rows.length by omega)
   rw [Nat.add_mul, Nat.one_mul] at this; exact this
  simp only [List.set_cons_succ, List.flatten_cons, ih]
  rw [mc _ _ _ (by rw [hc]; exact hlen), mc _ _ _ (by simp only [List.length_append, h1, hc, Nat.add_mul, Nat.one_mul]; omega)]
  have e : (i + 1) * z = r.length + i * z := by rw [h1, Nat.add_mul, Nat.one_mul]; omega
  rw [e, List.take_length_add_append, Nat.add_assoc, List.drop_length_add_append]
  simp only [List.append_assoc]
section
variable {P : Program} [dI P] {w : World} {g : G}
theorem qM (hs : ∀ id v, g.own id = some v → v.oneCell' = true) {z : Nat} : ∀ {parts : List (Nat × AV)} {vals : List (Nat × Value)} {rows r : List (List AV)} {us : Array Value}, parts.length = vals.length →
  (∀ (i : Nat) (p : Nat × AV) (q : Nat × Value), parts[i]? = some p → vals[i]? = some q → p.1 = q.1 ∧ bU w g p.2 q.2) → aG w g rows.flatten us.toList → eB z rows → vd z rows parts = some r →
  ∃ rs, Instr.fill (fun i => some (i * z, z)) us vals = some rs ∧ aG w g r.flatten rs.toList ∧ eB z r ∧ r.length = rows.length
 | [], vals, rows, r, us, hl, _, hc, hw, h => by
  have : vals = [] := by simpa using hl.symm
  subst this
  simp only [vd] at h
  obtain rfl := Ke h
  exact ⟨us, rfl, hc, hw, rfl⟩
 | (i, v) :: parts, [], _, _, _, hl, _, _, _, _ => by simp at hl
 | (i, v) :: parts, (i', u) :: vals, rows, r, us, hl, hv, hc, hw, h => by
  obtain ⟨rfl, hr⟩ := hv 0 _ _ rfl rfl
  simp only [vd] at h
  cases hcv : ka v with
  | none => simp [hcv] at h
  | some vs =>
   simp only [hcv] at h
   split at h
   ·
    rename_i hb
    simp only [Bool.and_eq_true, Nat.beq_eq, Nat.blt_eq] at hb
    have hcells := ij hcv hr hs
    have hlen : u.cells.size = z := by have := hcells.length; rw [hb.1] at this; simpa using this
    have hus : us.size = rows.length * z := by have := hc.length; rw [hw.flatten_length] at this; simpa using this
    have hw' : eB z (rows.set i vs) := fun q hq => by
     rcases List.mem_or_eq_of_mem_set hq with hq | rfl
     · exact hw q hq
     · exact hb.1
    obtain ⟨rs, h1, h2, h3, h4⟩ := qM hs (z := z) (parts := parts) (vals := vals) (rows := rows.set i vs)
     (us := u.cells.zipIdx.foldl (fun (cs : Array Value) (p : Value × Nat) => cs.setIfInBounds (i * z + p.2) p.1) us) (r := r) (by simpa using hl)
     (fun k p q h1 h2 => hv (k + 1) p q (by simpa using h1) (by simpa using h2)) (by
      have := pd (off := i * z) (k := 0) (cs := rows.flatten) (us := us.toList) hc hcells
      rw [← Array.foldl_toList, Array.toList_zipIdx, uU, qX hw hb.1 hb.2]
      simpa using this) hw' h
    refine ⟨rs, ?_, h2, h3, by simpa using h4⟩
    have hle : i * z + z ≤ us.size := by
     rw [hus]
     have := Nat.mul_le_mul_right z (show i + 1 ≤ rows.length by omega)
     rw [Nat.add_mul, Nat.one_mul] at this; exact this
    simp only [Instr.fill, hlen, ne_eq, not_true_eq_false, decide_false, Bool.false_or]
    rw [if_neg (by simp; omega)]
    exact h1
   · cases h
theorem u9 {zs : List Value} (hz : aG w g (zs.map jI) zs) : ∀ len, aG w g (List.replicate len (zs.map jI)).flatten (List.replicate len zs).flatten
 | 0 => by simp [aG]
 | len + 1 => by
  simp only [List.replicate_succ, List.flatten_cons]
  exact aG.append hz (u9 hz len)
theorem su (w : World) (g : G) : ∀ l : List Value, aG w g (l.map jI) l
 | [] => rfl
 | v :: l => ⟨v, l, rfl, iW v, su w g l⟩
theorem zY (z : Array Value) : ∀ len, ((Array.range (len * z.size)).map (z[· % z.size]!)).toList = (List.replicate len z.toList).flatten := by
 intro len
 have h1 : ((Array.range (len * z.size)).map (z[· % z.size]!)).toList = (List.range (len * z.size)).map (z[· % z.size]!) := by simp
 rw [h1]
 induction len with
 | zero => simp
 | succ len ih =>
  rw [Nat.add_mul, Nat.one_mul, List.range_add, List.map_append, ih (by simp), List.replicate_succ', List.flatten_append]
  congr 1
  simp only [List.map_map, List.flatten_cons, List.flatten_nil, List.append_nil]
  refine List.ext_getElem (by simp) fun i h1 h2 => ?_
  simp only [List.length_map, List.length_range] at h1
  simp only [List.getElem_map, List.getElem_range, Function.comp, Array.getElem_toList]
  rw [Nat.mul_add_mod_self_right, Nat.mod_eq_of_lt h1]
  exact getElem!_pos z i h1
end
section
variable {P : Program} [dI P] {N n0 : Nat} {Q : bY} {ops : Array Oper} {rest : List Oper} {σ : List (Nat × AV)} {H A : List (Nat × Nat × AV)} {O : List (Nat × Kind)} {n i : Nat}
 {d : Nat} {op : Op} {ty : TypeId} {pos : String} {af : Array Edge} {gd : Option (Nat × Bool)} {s : St}
def vj (P : Program) (N n0 : Nat) (s : St) (op : Op) (ty : TypeId) (K : Kind) (D : List Nat) : Prop :=
 ∀ (o : Oper), o.op = op → o.type = ty → ∀ w0 g0 a w g, dh N n0 w0 g0 s a w g → ∃ u w' g', (execOp a.eval o).run P w = .ok (.value u) w' ∧
  dh N n0 w0 g0 ⟨s.σ, s.H, (s.n, K) :: cd D s.O, s.n + 1⟩ a w' g' ∧ g'.own s.n = some u
theorem rN {K : Kind} {D : List Nat} (hd : Nat.blt d N = true) (hv : vj P N n0 ⟨σ, H, O, n⟩ op ty K D) (k : aM P N n0 ops rest Q ⟨(d, .own n) :: σ, H, (n, K) :: cd D O, n + 1⟩) :
  aM P N n0 ops (⟨some d, op, ty, pos, af, none⟩ :: rest) Q ⟨σ, H, O, n⟩ :=
 gV rfl (fun w0 g0 a w g hi => by
  obtain ⟨u, w', g', hu, hi', hr⟩ := hv ⟨some d, op, ty, pos, af, none⟩ rfl rfl w0 g0 a w g hi
  exact ⟨u, w', g', hu, hi'.put (d := some d) (v := .own n) hr hd⟩) k
theorem BA (wr : Bool) {z : Nat} {t tx e : TypeId} {x y : Operand} {xs ys : List (List AV)} {D : List Nat} {i je : TI} (ht : ti P t = some i) (hk : i.k = .slice e)
  (he : ti P e = some je) (hz : Nat.beq je.size z = true) (hzs : Nat.beq je.zero.length z = true) (hz0 : Nat.blt 0 je.bytes = true) (hb : uQ s wr z x xs D) (hy : xY P s wr z tx y ys) (hw : eB z ys) (h1 : vF ys)
  (hbytes : (xs.length + ys.length) * je.bytes ≤ 140737488355328) : vj P N n0 s (.call ⟨.builtin .append, #[x, y], #[t, tx]⟩) ty (eK wr z (xs ++ ys)) D := by
 rintro ⟨dst, op, type, pos, after, guard⟩ rfl rfl w0 g0 a w g hi
 obtain ⟨v, w', g', hrun, hi', ho⟩ := wb (ty := type) hi ht hk he hz hzs hz0 hb hy hw h1 hbytes
 exact ⟨v, w', g', dq (by simpa using hrun), hi', ho⟩
theorem D5 (wr : Bool) {t e : TypeId} {len : Nat} {parts : Array (Nat × Operand)} {i je : TI} {rows : List (List AV)} (ht : ti P t = some i) (hk : i.k = .slice e) (he : ti P e = some je) (hzs : Nat.beq je.zero.length je.size = true)
  (hz0 : Nat.blt 0 je.size = true) (hsz : Nat.ble (len * je.size) 16777216 = true)
  (hr : vd je.size (List.replicate len je.zero) (parts.toList.map fun p => (p.1, if wr then ev s.σ p.2 else gj s p.2)) = some rows) (hl : wr = true ∨ fo 0 rows = true) :
  vj P N n0 s (.buildSlice t len parts) ty (eK wr je.size rows) [] := by
 rintro ⟨dst, op, type, pos, after, guard⟩ rfl rfl w0 g0 a w g hi
 obtain ⟨_, _, _, h2⟩ := aV ht
 obtain ⟨inf, _, zv, h3⟩ := aV he
 have hu : P.underlying t = some (.slice e) := by rw [h2.und, h2.desc_slice hk]
 simp only [Nat.beq_eq, Nat.ble_eq, Nat.blt_eq] at hzs hsz hz0
 have hzc : zv.cells.size = je.size := by
  have := h3.zeros
  rw [this] at hzs
  simpa using hzs
 have hzr : aG w g (List.replicate len je.zero).flatten ((Array.range (len * je.size)).map (zv.cells[· % zv.cells.size]!)).toList := by
  rw [← hzc, zY, h3.zeros]
  exact u9 (su w g _) len
 have hwz : eB je.size (List.replicate len je.zero) := fun r hr => by
  obtain ⟨_, rfl⟩ := List.mem_replicate.1 hr
  exact hzs
 obtain ⟨rs, h4, h5, h6, h7⟩ := qM hi.wf.ownSl (parts := parts.toList.map fun p => (p.1, if wr then ev s.σ p.2 else gj s p.2)) (vals := parts.toList.map fun p => (p.1, a.eval p.2))
  (us := (Array.range (len * je.size)).map (zv.cells[· % zv.cells.size]!)) (by simp) (fun k p q h1 h2 => by
   simp only [List.getElem?_map, Option.map_eq_some_iff] at h1 h2
   obtain ⟨p', hp', rfl⟩ := h1
   obtain ⟨q', hq', rfl⟩ := h2
   obtain rfl : p' = q' := by rw [hp'] at hq'; exact Ke hq'
   refine ⟨rfl, ?_⟩
   cases wr
   · exact dJ hi p'.2
   · exact bA hi.slots p'.2) hzr hwz hr
 have hG : ol w { w with heap := w.heap.push (.cells (rs.toList ++ []).toArray e (0, 0)) } (.cells (rs.toList ++ []).toArray e (0, 0)) := ⟨rfl, rfl, rfl, rfl⟩
 have hlen : rows.length = len := by simpa using h7
 have hrl : aG w (if wr then g else G.ofTop g.top) rows.flatten rs.toList := by
  cases wr with
  | true => exact h5
  | false =>
   rcases hl with hl | hl
   · cases hl
   · exact aG.closed hi.wf (fA hl) h5
 obtain ⟨g', k1, k2, _⟩ := hi.newRow wr [] (fun _ h => by cases h) (.inl rfl) hG h6 (cap := len) (by omega) (by rw [hrl.length, h6.flatten_length, hlen]; simp) hrl
 refine ⟨_, _, g', dq (u := .slice (some ⟨w.heap.size, 0, none⟩) len len) ?_, k1, by rw [k2, hlen]⟩
 have hmap : (parts.map fun p => (p.1, a.eval p.2)).toList = parts.toList.map fun p => (p.1, a.eval p.2) := by simp
 have hns : ¬ (len * inf.size > 2 ^ 24) := by rw [← h3.size]; omega
 have hsize : (sizeOf e).run P w = .ok inf.size w := by rw [h3.run_size, h3.size]
 rw [← hmap, h3.size] at h4
 by_cases h0 : len * inf.size = 0
 ·
  have hr0 : Array.range 0 = #[] := rfl
  rw [h0, hr0, Array.map_empty] at h4
  simp only [Instr.buildSlice, Sem.run_bind, run_underlying hu, Result.andThen_ok, hsize]
  rw [if_neg hns]
  simp only [h0, if_true, Sem.run_pure, Result.andThen_ok, hr0, Array.map_empty, h4, newRow]
  simp
 ·
  simp only [Instr.buildSlice, Sem.run_bind, run_underlying hu, Result.andThen_ok, hsize]
  rw [if_neg hns]
  simp only [if_neg h0, Sem.run_bind, h3.run_zero, Sem.run_pure, Result.andThen_ok, h4, newRow]
  simp
theorem CD (wr : Bool) {src dst' e : TypeId} {x : Operand} {b : ByteArray} {j je jd : TI} (ht : ti P dst' = some j) (hk : j.k = .slice e) (he : ti P e = some je) (hke : je.k = .int .u8) (hd : ti P src = some jd) (hkd : jd.k = .str)
  (hx : gj s x = .str b) : vj P N n0 s (.convert src dst' x) ty (eK wr 1 (mY b)) [] := by
 rintro ⟨dst, op, type, pos, after, guard⟩ rfl rfl w0 g0 a w g hi
 obtain ⟨_, _, _, h2⟩ := aV ht
 obtain ⟨_, _, _, h3⟩ := aV he
 obtain ⟨_, _, _, h4⟩ := aV hd
 have hu : P.underlying dst' = some (.slice e) := by rw [h2.und, h2.desc_slice hk]
 have hue : P.underlying e = some (.int .u8) := by rw [h3.und, h3.desc_int hke]
 have hud : P.underlying src = some .string := by rw [h4.und, h4.desc_str hkd]
 have r1 := dJ hi x
 rw [hx] at r1
 have e1 : a.eval x = .string b := r1
 have hrun := run_bytes_of_string (P := P) w src dst' e b hud hu hue
 let C := grownCap w b.size 0 e
 have hge : b.size ≤ C := grownCap_ge w _ 0 e
 have hrow : bytesRow b C = ((byteCells b) ++ List.replicate (C - b.size) (Value.int .u8 0)).toArray := by
  simp [bytesRow, byteCells]
 have hlen : (byteCells b).length = b.size := byteCells_length b
 have hG : ol w (w.drew.alloc (.cells (bytesRow b C) e ((bytesRow b C).size, (bytesRow b C).size + 1))) (.cells ((byteCells b) ++ List.replicate (C - b.size) (Value.int .u8 0)).toArray e ((bytesRow b C).size, (bytesRow b C).size + 1)) :=
  ⟨by rw [← hrow]; rfl, rfl, rfl, rfl⟩
 have hrl : aG w (if wr then g else G.ofTop g.top) (mY b).flatten (byteCells b) := by rw [qS]; exact lp _ _
 have hbl := ow b
 obtain ⟨g', k1, k2, _⟩ := hi.newRow wr [] (fun _ h => by cases h) (.inr (by rw [hrow]; simp only [List.size_toArray, List.length_append]; exact Nat.le_refl _)) hG (vG b).wide (cap := C) (by omega)
  (by rw [hlen, List.length_replicate, Nat.mul_one]; omega) hrl
 refine ⟨_, _, g', dq (u := .slice (some ⟨w.heap.size, 0, none⟩) b.size C) ?_, k1, by rw [k2, hbl]⟩
 rw [e1]; exact hrun
theorem FD {t e : TypeId} {x : Operand} {lo : Option Operand} {z k : Nat} {xs : List (List AV)} {l : Nat} {j je : TI} (ht : ti P t = some j) (hk : j.k = .slice e) (he : ti P e = some je) (hz : Nat.beq je.size z = true)
  (hx : ev s.σ x = .own k) (hO : dk s.O k = some (.row z xs)) (hlo : Fm s 0 lo l) (hb : l ≤ xs.length) : vj P N n0 s (.slice t x lo none none) ty (.row z (xs.drop l)) [k] := by
 rintro ⟨dst, op, type, pos, after, guard⟩ rfl rfl w0 g0 a w g hi
 obtain ⟨_, _, _, h2⟩ := aV ht
 obtain ⟨_, _, _, h3⟩ := aV he
 have hu : P.underlying t = some (.slice e) := by rw [h2.und, h2.desc_slice hk]
 simp only [Nat.beq_eq] at hz
 have r1 := bA hi.slots x
 rw [hx] at r1
 obtain ⟨hw, hwd, ad, cap, q1, q2, q3, q4⟩ := hi.owns.at hO
 have e1 : a.eval x = .slice ad xs.length cap := by
  have : g.own k = some (a.eval x) := r1
  rw [q1] at this; exact (Ke this).symm
 have hbd := oX (P := P) (w := w) (len := xs.length) (cap := cap) (h := xs.length) (hi := none) (p5 hi hlo) (by rfl) true hb q2
 let v : Value := .slice (if cap = l then ad else ad.map (·.add (l * z))) (xs.length - l) (cap - l)
 have hrun : (Instr.sliceAt t (a.eval x) (lo.map a.eval) none none).run P w = .ok v w := by
  simp only [Instr.sliceAt, Instr.slice, Sem.run_bind, run_underlying hu, Result.andThen_ok, e1, hbd, h3.run_size, Sem.run_pure, hz, v]
 have hD : ∀ i, i ∈ [k] → ∃ v, g.own i = some v := fun i hi => by
  obtain rfl : i = k := by simpa using hi
  exact ⟨_, q1⟩
 have hwd' : eB z (xs.drop l) := fun r hr => hw r (List.mem_of_mem_drop hr)
 have hlen : (xs.drop l).length = xs.length - l := by simp
 cases had : ad with
 | none =>
  obtain ⟨rfl, rfl⟩ := q3 had
  obtain rfl : l = 0 := by simpa using hb
  obtain ⟨g', k1, k2, _⟩ := hi.newNone false z [k] hD
  exact ⟨v, w, g', dq (by simpa using hrun), by simpa [eK] using k1, by rw [k2]; simp [v, had]⟩
 | some b =>
  obtain ⟨p1, p2, p3⟩ := q4 b had
  by_cases hcl : cap = l
  ·
   have hxl : xs.length = l := by omega
   obtain ⟨g', k1, k2, _⟩ := hi.newHdr (v := v) (K := .row z (xs.drop l)) (z := z) [k] hD rfl (fun g' e1 e2 e3 hm => by
    have hd : xs.drop l = [] := List.drop_eq_nil_of_le (by omega)
    refine ⟨hwd', e2, some b, 0, by rw [e1]; simp [v, hcl, had, hd, hxl], by simp [hd], (fun e => by cases e), fun b' e => ?_⟩
    rw [hd]
    exact ⟨fun h => absurd rfl h, trivial, .inl rfl⟩)
   exact ⟨v, w, g', dq (by simpa using hrun), k1, k2⟩
  ·
   rcases p3 with p3 | ⟨p3, p4⟩
   ·
    have hne : xs ≠ [] := fun e => by subst e; simp at hb p3; omega
    obtain ⟨bb, off, sp⟩ := b
    obtain rfl := p1 hne
    obtain ⟨g', k1, k2, _⟩ := hi.newHdr (v := v) (K := .row z (xs.drop l)) (z := z) [k] hD rfl (fun g' e1 e2 e3 hm => by
     refine ⟨hwd', e2, some ⟨bb, off + l * z, none⟩, cap - l, by rw [e1]; simp [v, hcl, had, dz], by omega, (fun e => by cases e), fun b' e => ?_⟩
     obtain rfl := Ke e
     refine ⟨fun _ => rfl, ?_, .inl (by omega)⟩
     rw [e3]
     exact bk.drop l hw p2 hb)
    exact ⟨v, w, g', dq (by simpa using hrun), k1, k2⟩
   ·
    obtain ⟨bb, off, sp⟩ := b
    obtain ⟨rfl, howner, c, e', fr, hc, hcs, hfz⟩ := p3
    simp only at howner hc hcs hfz p4
    have hm : l * z ≤ cap * z := Nat.mul_le_mul_right _ (by omega)
    have hm2 : l * z ≤ xs.length * z := Nat.mul_le_mul_right _ hb
    obtain ⟨g', k1, k2, _⟩ := hi.moved (k := k) (z := z) (K := .row z (xs.drop l)) (v := v) (b := bb) (w' := w) q1 howner rfl rfl rfl rfl rfl (fun _ _ => rfl) (fun _ _ => rfl) (fun g' e1 e2 e3 e4 hmm => by
     refine ⟨hwd', e2, some ⟨bb, off + l * z, none⟩, cap - l, by rw [e1]; simp [v, hcl, had, dz], by omega, (fun e => by cases e), fun b' e => ?_⟩
     obtain rfl := Ke e
     refine ⟨fun _ => rfl, ?_, .inr ⟨⟨rfl, e4, c, e', fr, hc, ?_, hfz⟩, ?_⟩⟩
     · rw [e3]; exact bk.drop l hw p2 hb
     ·
      show off + l * z + (cap - l) * z ≤ c.size
      rw [Nat.sub_mul]; omega
     · rw [e3, p4, hlen, Nat.sub_mul]; show off + xs.length * z = off + l * z + (xs.length * z - l * z); omega)
    exact ⟨v, w, g', dq (by simpa using hrun), k1, k2⟩
end
end Go.Pv
namespace Go.Pv
open Go.RowKit (Below)
set_option linter.unusedSimpArgs false
set_option linter.unusedSectionVars false
set_option linter.unusedVariables false
section
variable {P : Program} [dI P] {N n0 : Nat} {Q : bY} {ops : Array Oper} {rest : List Oper} {σ : List (Nat × AV)} {H A : List (Nat × Nat × AV)} {O : List (Nat × Kind)} {n i : Nat}
 {d : Nat} {op : Op} {ty : TypeId} {pos : String} {af : Array Edge} {gd : Option (Nat × Bool)} {s : St} {c : Code} {w0 : World} {g0 : G} {a : Act} {w : World} {g : G}
theorem aQ {s' : St} (h : ∀ w0 g0 a w g, dh N n0 w0 g0 s a w g → ∃ g', dh N n0 w0 g0 s' a w g') (k : cg P N n0 c Q s') : cg P N n0 c Q s := fun w0 g0 a w g hi => by
 obtain ⟨g', hi'⟩ := h w0 g0 a w g hi
 exact k w0 g0 a w g' hi'
theorem nH (wr : Bool) (z t : Nat) (ht : lk σ t = .nilS) (hi : dh N n0 w0 g0 ⟨σ, H, O, n⟩ a w g) : ∃ g', dh N n0 w0 g0 ⟨(t, .own n) :: σ, H, (n, eK wr z []) :: O, n + 1⟩ a w g' := by
 obtain ⟨g', k1, k2, _⟩ := hi.newNone wr z [] (fun _ h => by cases h)
 have hd : cd [] O = O := by
  have : ∀ O : List (Nat × Kind), cd [] O = O := fun O => by
   induction O with
   | nil => rfl
   | cons e O ih => simp [cd, ej, ih]
  exact this O
 refine ⟨g', ?_⟩
 have hr := hi.slots t
 rw [show lk (St.mk σ H O n).σ t = .nilS from ht] at hr
 have hv : a.tmps.getD t undef = .slice none 0 0 := hr
 have k1' : dh N n0 w0 g0 ⟨σ, H, (n, eK wr z []) :: O, n + 1⟩ a w g' := by simpa only [hd] using k1
 exact k1'.putS (v := .own n) (by rw [hv]; exact k2)
theorem iX (wr : Bool) (z id off : Nat) (ht : d3 H id off = some .nilS) (hi : dh N n0 w0 g0 ⟨σ, H, O, n⟩ a w g) : ∃ g', dh N n0 w0 g0 ⟨σ, (id, off, .own n) :: H, (n, eK wr z []) :: O, n + 1⟩ a w g' := by
 obtain ⟨g', k1, k2, _⟩ := hi.newNone wr z [] (fun _ h => by cases h)
 have hd : cd [] O = O := by
  have : ∀ O : List (Nat × Kind), cd [] O = O := fun O => by
   induction O with
   | nil => rfl
   | cons e O ih => simp [cd, ej, ih]
  exact this O
 have k1' : dh N n0 w0 g0 ⟨σ, H, (n, eK wr z []) :: O, n + 1⟩ a w g' := by simpa only [hd] using k1
 refine ⟨g', { k1' with cells := fun i p x hx => ?_ }⟩
 simp only [d3] at hx
 split at hx
 ·
  rename_i hc
  simp only [Bool.and_eq_true, Nat.beq_eq] at hc
  obtain ⟨rfl, rfl⟩ := hc
  obtain rfl := Ke hx
  obtain ⟨b, cc, e, hb, hw, v, hv, r⟩ := k1'.cells id off .nilS ht
  have hv' : v = .slice none 0 0 := r
  exact ⟨b, cc, e, hb, hw, v, hv, by rw [hv']; exact k2⟩
 · exact k1'.cells i p x hx
theorem C5 (k : Nat) {z : Nat} {xs : List (List AV)} (hO : dk O k = some (.wr z xs)) (hl : fo 0 xs = true) (hk : Nat.ble n0 k = true) (hi : dh N n0 w0 g0 ⟨σ, H, O, n⟩ a w g) :
  ∃ g', dh N n0 w0 g0 ⟨σ, H, (k, .row z xs) :: O, n⟩ a w g' := by
 obtain ⟨q1, q2, ad, cap, q3, q4, q5, q6⟩ := hi.owns.at hO
 have hwf := hi.wf
 cases ad with
 | none =>
  obtain ⟨rfl, rfl⟩ := q5 rfl
  refine ⟨g, { hi with owns := fun i K hx => ?_ }⟩
  simp only [dk] at hx
  split at hx
  ·
   rename_i hki
   have : k = i := by simpa using hki
   subst this
   obtain rfl := Ke hx
   exact ⟨q1, q2, none, 0, q3, Nat.le_refl _, (fun _ => ⟨rfl, rfl⟩), (fun b e => by cases e)⟩
  · exact hi.owns.at hx
 | some ad =>
  obtain ⟨ho, ht, vs, hr, hc⟩ := q6 ad rfl
  obtain ⟨b, off, sp⟩ := ad
  obtain ⟨rfl, howner, c, e, fr, hcells, hcs, hfz⟩ := ho
  simp only at howner hcells hcs hfz ht hc
  let T := off + xs.length * z
  let g' : G := { g with top := fun x => if x = b then T else g.top x }
  have hbs : b < w.heap.size := hwf.ownerLt howner
  have hT : g.top b ≤ T := Nat.le_trans ht (Nat.le_add_right _ _)
  have htops : ∀ x, g.top x ≤ g'.top x := fun x => by
   simp only [g']; split
   · rename_i e; subst e; exact hT
   · exact Nat.le_refl _
  have hm : gC w g w g' := ⟨⟨htops, fun _ _ _ => rfl⟩, fun _ _ e => e, fun _ _ e => e, fun _ _ _ => rfl⟩
  have hne : ∀ id b', g.blk id = some b' → b' ≠ b := fun id b' hb e => by
   subst e
   have := (hwf.blkOwner id b' hb).1
   rw [howner] at this
   obtain rfl := Ke this
   rw [hwf.sep _ _ hb] at q3; cases q3
  have hvl : vs.length = xs.length * z := by rw [hr.length, q1.flatten_length]
  refine ⟨g', {
   defers := hi.defers
   size := hi.size
   slots := fun t => (hi.slots t).mono _ _ hm
   cells := fun i p x hx => by
    obtain ⟨b', c', e', hb, hw, v, hv, r⟩ := hi.cells i p x hx
    exact ⟨b', c', e', hb, hw, v, hv, r.mono _ _ hm⟩
   owns := fun i K hx => ?_
   wf := {
    topNew := fun x hx => by
     have : x ≠ b := by omega
     simp only [g', this, if_false]; exact hwf.topNew x hx
    ownNew := hwf.ownNew
    blkOwner := fun id b' hb => by
     obtain ⟨k1, k2, k3, k4⟩ := hwf.blkOwner id b' hb
     exact ⟨k1, k2, by simp only [g', hne id b' hb, if_false]; exact k3, k4⟩
    ownLt := hwf.ownLt
    ownSl := hwf.ownSl
    sep := hwf.sep
    idLt := hwf.idLt }
   frame := { hi.frame with
    foreign := fun x hx hxo => by
     obtain ⟨k1, k2⟩ := hi.frame.foreign x hx hxo
     have : x ≠ b := fun e => by subst e; rw [k1] at howner; cases howner
     exact ⟨k1, by simp only [g', this, if_false]; exact k2⟩
    top := fun x => Nat.le_trans (hi.frame.top x) (htops x) }
   nle := hi.nle
   laid := hi.laid }⟩
  simp only [dk] at hx
  split at hx
  ·
   rename_i hki
   have : k = i := by simpa using hki
   subst this
   obtain rfl := Ke hx
   refine ⟨q1, q2, some ⟨b, off, none⟩, cap, q3, q4, (fun e => by cases e), fun ad eq => ?_⟩
   obtain rfl := Ke eq
   have hrc : aG w (G.ofTop g'.top) xs.flatten vs := aG.closed (n := n) (g := g') {
    topNew := fun x hx => by
     have : x ≠ b := by omega
     simp only [g', this, if_false]; exact hwf.topNew x hx
    ownNew := hwf.ownNew
    blkOwner := fun id b' hb => by
     obtain ⟨k1, k2, k3, k4⟩ := hwf.blkOwner id b' hb
     exact ⟨k1, k2, by simp only [g', hne id b' hb, if_false]; exact k3, k4⟩
    ownLt := hwf.ownLt
    ownSl := hwf.ownSl
    sep := hwf.sep
    idLt := hwf.idLt } (fA hl) (aG.mono _ _ hm hr)
   refine ⟨fun _ => rfl, bk.of_flat (nq hrc fun j u hu => ⟨hc j u hu, ?_⟩), .inr ⟨⟨rfl, howner, c, e, fr, hcells, hcs, hfz⟩, by simp [g', T]⟩⟩
   have hj := (List.getElem?_eq_some_iff.1 hu).1
   simp only [g', if_true, T]; omega
  ·
   rename_i hne'
   have hk' := hi.owns.at hx
   refine Kind.keep hk' ⟨hm, fun x hx' => ⟨rfl, hx', ?_⟩, fun x hx' => hx'⟩
   have : x ≠ b := fun e => by
    subst e
    rw [howner] at hx'
    obtain rfl := Ke hx'
    simp at hne'
   simp [g', this]
theorem bZ (id off k : Nat) {wr : Bool} {z : Nat} {xs : List (List AV)} (hH : d3 H id off = some (.own k)) (hO : dk O k = some (eK wr z xs)) (hi : dh N n0 w0 g0 ⟨σ, H, O, n⟩ a w g) :
  ∃ g', dh N n0 w0 g0 ⟨σ, (id, off, .own n) :: H, (n, eK wr z xs) :: cd [k] O, n + 1⟩ a w g' := by
 obtain ⟨g', v, k1, k2, k3, k4⟩ := hi.again wr hO
 refine ⟨g', { k1 with cells := fun i p x hx => ?_ }⟩
 simp only [d3] at hx
 split at hx
 ·
  rename_i hc
  simp only [Bool.and_eq_true, Nat.beq_eq] at hc
  obtain ⟨rfl, rfl⟩ := hc
  obtain rfl := Ke hx
  obtain ⟨b, cc, e, hb, hw, u, hu, r⟩ := k1.cells id off (.own k) hH
  obtain ⟨b', cc', e', hb', hw', u', hu', r'⟩ := hi.cells id off (.own k) hH
  have e1 : g.own k = some u' := r'
  refine ⟨b, cc, e, hb, hw, u, hu, ?_⟩
  have e2 : g'.own k = some u := r
  have e3 : g'.own k = some v := k4.own k v k2
  rw [e3] at e2
  rw [← Ke e2]; exact k3
 · exact k1.cells i p x hx
theorem Jr {t t2 : TypeId} {x : Operand} {xs : List (List AV)} {j : TI} {e : TypeId} (hd : Nat.blt d N = true) (ht : ti P t = some j) (hk : j.k = .slice e) (hx : gj ⟨σ, H, O, n⟩ x = .sl xs)
  (k : ∀ b : Bool, (b = true → xs = []) → aM P N n0 ops rest Q ⟨(d, .bool b) :: σ, H, O, n⟩) :
  aM P N n0 ops (⟨some d, .binOp .eql t x (.const (.slice none 0 0)) t2, ty, pos, af, none⟩ :: rest) Q ⟨σ, H, O, n⟩ := by
 intro w0 g0 a w g hi
 obtain ⟨_, _, _, h1⟩ := aV ht
 have hdd := h1.desc_slice hk
 have r := dJ hi x
 rw [hx] at r
 obtain ⟨ad, cap, e1, hc, hn, had⟩ := r
 have hrun : (execOp a.eval ⟨some d, .binOp .eql t x (.const (.slice none 0 0)) t2, ty, pos, af, none⟩).run P w = .ok (.value (.bool ad.isNone)) w := by
  refine bG ?_
  rw [e1]
  have hu : P.underlying t = some (.slice e) := by rw [h1.und, hdd]
  have he : Act.eval a (.const (.slice none 0 0)) = .slice none 0 0 := rfl
  rw [he]
  have := (nw (P := P) (w := w) (t := t) (u := .slice ad xs.length cap) (v := .slice none 0 0) (r := ad.isNone) rfl (by
   simp only [Op.equal, Op.maxDepth]; rw [Op.equalIn]
   cases ad <;> simp only [Sem.run_bind, run_underlying hu, Result.andThen_ok, Sem.run_pure, Option.isNone])).1
  simp only [Sem.run_bind, eqGuard_at_slice, Sem.run_pure, Result.andThen_ok]
  exact this
 exact p0 (o := ⟨some d, .binOp .eql t x (.const (.slice none 0 0)) t2, ty, pos, af, none⟩) rfl hrun
  (k ad.isNone (fun hb => hn (by simpa using hb)) w0 g0 _ w g (hi.put (s := ⟨σ, H, O, n⟩) (d := some d) (v := .bool ad.isNone) rfl hd))
end
theorem IJ {O : List (Nat × Kind)} {L : List Nat} {i z : Nat} {xs xs' : List (List AV)} (h : dk O (gz L 0 i) = some (.row z xs')) (e : xs' = xs) (hb : Nat.blt i L.length = true) :
  (∃ K', dk O (gz L 0 i) = some K' ∧ KR (gz L 0) L.length (.row z xs) K') ∧ Nat.blt i L.length = true := by
 subst e; exact ⟨⟨_, h, .row⟩, hb⟩
theorem Kc {P : Program} [dI P] {m : Nat} {rs : List ResultVar} {K : AV → List (Nat × Nat × AV) → List (Nat × Kind) → Nat → Prop} {s : St} (L : List Nat) (H : List (Nat × Nat × AV)) (O : List (Nat × Kind)) {r : AV}
  (h : tQ P s rs = some (r.ren (gz L 0))) (hl : r.lim L.length = true) (hk : cL m L 0 = true) (hg : fH s.n L = true) (hH : ib s.H s.O L H) (hO : iz s.O L O) (k : K r H O L.length) : lH P m rs K .ret s :=
 ⟨r, L, ⟨[], H, O, L.length⟩, .inl h, hl, hk, ⟨hg, rfl, trivial, hH, hO⟩, k⟩
theorem Jj {P : Program} [dI P] {m : Nat} {rs : List ResultVar} {K : AV → List (Nat × Nat × AV) → List (Nat × Kind) → Nat → Prop} {s : St} (L : List Nat) (H : List (Nat × Nat × AV)) (O : List (Nat × Kind)) {r : AV}
  (h : tQ P s rs = some (r.ren (gz L 0))) (hl : r.lim L.length = true) (hk : cL m L 0 = true) (hg : fH s.n L = true) (hH : ib s.H s.O L H) (hO : iz s.O L O) (k : K r H O L.length) : lH P m rs K .normal s :=
 ⟨r, L, ⟨[], H, O, L.length⟩, .inl h, hl, hk, ⟨hg, rfl, trivial, hH, hO⟩, k⟩
end Go.Pv
namespace Go.Pv
set_option linter.unusedSimpArgs false
set_option linter.unusedSectionVars false
set_option linter.unusedVariables false
theorem nQ {a b : List (List AV)} (h : a = b) : AV.sl a = AV.sl b := by rw [h]
theorem gM {a b : ByteArray} (h : a = b) : AV.str a = AV.str b := by rw [h]
def FJ {β : Type} : List (List AV) → (List (List AV) → Option β) → Option β
 | [], k => k []
 | x :: r, k => Ez x fun x' => FJ r fun r' => k (x' :: r')
theorem Aw {β : Type} : ∀ (xs : List (List AV)) (k : List (List AV) → Option β), FJ xs k = k xs
 | [], _ => rfl
 | x :: r, k => by simp only [FJ]; rw [mW x]; exact Aw r _
def DR : Option (List (List AV)) → Option (List (List AV))
 | some v => FJ v some
 | none => none
theorem Ed (x : Option (List (List AV))) : DR x = x := by cases x <;> simp [DR, Aw]
def HQ {β : Type} (n : Nat) (k : Nat → Option β) : Option β :=
 match n with
 | 0 => k 0
 | m + 1 => k (m + 1)
theorem w7 {β : Type} (n : Nat) (k : Nat → Option β) : HQ n k = k n := by cases n <;> rfl
def xy {β : Type} : List (Nat × Nat × AV) → (List (Nat × Nat × AV) → Option β) → Option β
 | [], k => k []
 | (i, o, v) :: r, k => HQ i fun i' => HQ o fun o' => v.nf fun v' => xy r fun r' => k ((i', o', v') :: r')
theorem wC {β : Type} : ∀ (xs : List (Nat × Nat × AV)) (k : List (Nat × Nat × AV) → Option β), xy xs k = k xs
 | [], _ => rfl
 | (i, o, v) :: r, k => by simp only [xy]; rw [w7, w7, AV.nf_eq]; exact wC r _
def JN {β : Type} : Kind → (Kind → Option β) → Option β
 | .row z xs, k => k (.row z xs)
 | .wr z xs, k => k (.wr z xs)
 | .map ks vs, k => k (.map ks vs)
 | .sem s, k => k (.sem s)
theorem GN {β : Type} (K : Kind) (k : Kind → Option β) : JN K k = k K := by cases K <;> rfl
def o0 {β : Type} : List (Nat × Kind) → (List (Nat × Kind) → Option β) → Option β
 | [], k => k []
 | (i, K) :: r, k => HQ i fun i' => JN K fun K' => o0 r fun r' => k ((i', K') :: r')
theorem i8 {β : Type} : ∀ (xs : List (Nat × Kind)) (k : List (Nat × Kind) → Option β), o0 xs k = k xs
 | [], _ => rfl
 | (i, K) :: r, k => by simp only [o0]; rw [w7, GN]; exact i8 r _
section
variable {P : Program} [dI P] {N n0 : Nat} {Q : bY} {ops : Array Oper} {rest : List Oper} {σ : List (Nat × AV)} {H H2 A : List (Nat × Nat × AV)} {O O2 : List (Nat × Kind)} {n n2 i : Nat}
 {d : Nat} {op : Op} {ty : TypeId} {pos : String} {af : Array Edge} {gd : Option (Nat × Bool)} {s : St} {c : Code}
theorem ae (hH : xy H some = some H2) (hO : o0 O some = some O2) (hn : HQ n some = some n2) (k : aM P N n0 ops rest Q ⟨σ, H2, O2, n2⟩) : aM P N n0 ops rest Q ⟨σ, H, O, n⟩ := by
 rw [wC] at hH; rw [i8] at hO; rw [w7] at hn
 obtain rfl := Ke hH; obtain rfl := Ke hO; obtain rfl := Ke hn
 exact k
theorem HK {v v2 : AV} (hv : v.nf some = some v2) (k : aM P N n0 ops rest Q ⟨(d, v2) :: σ, H, O, n⟩) : aM P N n0 ops rest Q ⟨(d, v) :: σ, H, O, n⟩ := by
 rw [AV.nf_eq] at hv
 obtain rfl := Ke hv
 exact k
theorem mz (wr : Bool) {t e : TypeId} {len : Nat} {parts : Array (Nat × Operand)} {i je : TI} {rows : List (List AV)} (hd : Nat.blt d N = true) (ht : ti P t = some i) (hk : i.k = .slice e) (he : ti P e = some je) (hzs : Nat.beq je.zero.length je.size = true)
  (hz0 : Nat.blt 0 je.size = true) (hsz : Nat.ble (len * je.size) 16777216 = true)
  (hr : DR (vd je.size (List.replicate len je.zero) (parts.toList.map fun p => (p.1, if wr then ev σ p.2 else gj ⟨σ, H, O, n⟩ p.2))) = some rows) (hl : (wr || fo 0 rows) = true)
  (hO : o0 O some = some O2) (k : aM P N n0 ops rest Q ⟨(d, .own n) :: σ, H, (n, eK wr je.size rows) :: O2, n + 1⟩) : aM P N n0 ops (⟨some d, .buildSlice t len parts, ty, pos, af, none⟩ :: rest) Q ⟨σ, H, O, n⟩ := by
 rw [Ed] at hr
 rw [i8] at hO
 obtain rfl := Ke hO
 have hdr : cd [] O = O := by
  have : ∀ O : List (Nat × Kind), cd [] O = O := fun O => by
   induction O with
   | nil => rfl
   | cons e O ih => simp [cd, ej, ih]
  exact this O
 have hl' : wr = true ∨ fo 0 rows = true := by simpa using hl
 have := rN (ops := ops) (rest := rest) (Q := Q) (pos := pos) (af := af) (ty := ty) hd (D5 (N := N) (n0 := n0) (s := ⟨σ, H, O, n⟩) (ty := ty) wr ht hk he hzs hz0 hsz hr hl')
 rw [hdr] at this
 exact this k
theorem pu (wr : Bool) {z : Nat} {t tx e : TypeId} {x y : Operand} {xs ys : List (List AV)} {D : List Nat} {i je : TI} (hd : Nat.blt d N = true) (ht : ti P t = some i) (hk : i.k = .slice e)
  (he : ti P e = some je) (hz : Nat.beq je.size z = true) (hzs : Nat.beq je.zero.length z = true) (hz0 : Nat.blt 0 je.bytes = true) (hb : uQ ⟨σ, H, O, n⟩ wr z x xs D) (hy : xY P ⟨σ, H, O, n⟩ wr z tx y ys) (hw : eB z ys) (h1 : vF ys)
  (hbytes : (xs.length + ys.length) * je.bytes ≤ 140737488355328) (hO : o0 (cd D O) some = some O2) (k : aM P N n0 ops rest Q ⟨(d, .own n) :: σ, H, (n, eK wr z (xs ++ ys)) :: O2, n + 1⟩) :
  aM P N n0 ops (⟨some d, .call ⟨.builtin .append, #[x, y], #[t, tx]⟩, ty, pos, af, none⟩ :: rest) Q ⟨σ, H, O, n⟩ := by
 rw [i8] at hO
 obtain rfl := Ke hO
 exact rN hd (BA wr ht hk he hz hzs hz0 hb hy hw h1 hbytes) k
theorem J4 {t e : TypeId} {x : Operand} {lo : Option Operand} {z m : Nat} {xs : List (List AV)} {l : Nat} {j je : TI} (hd : Nat.blt d N = true) (ht : ti P t = some j) (hk : j.k = .slice e) (he : ti P e = some je) (hz : Nat.beq je.size z = true)
  (hx : ev σ x = .own m) (hO : dk O m = some (.row z xs)) (hlo : Fm ⟨σ, H, O, n⟩ 0 lo l) (hb : l ≤ xs.length) (hO2 : o0 (cd [m] O) some = some O2) (k : aM P N n0 ops rest Q ⟨(d, .own n) :: σ, H, (n, .row z (xs.drop l)) :: O2, n + 1⟩) :
  aM P N n0 ops (⟨some d, .slice t x lo none none, ty, pos, af, none⟩ :: rest) Q ⟨σ, H, O, n⟩ := by
 rw [i8] at hO2
 obtain rfl := Ke hO2
 exact rN hd (FD ht hk he hz hx hO hlo hb) k
end
end Go.Pv
namespace Go.Pv
set_option linter.unusedSimpArgs false
set_option linter.unusedSectionVars false
set_option linter.unusedVariables false
theorem oj {z : Nat} : ∀ {xs : List (List AV)} {r c : Nat} {row cs : List AV}, eB z xs → xs[r]? = some row → c + cs.length ≤ z →
  (xs.set r (row.take c ++ cs ++ row.drop (c + cs.length))).flatten = xs.flatten.take (r * z + c) ++ cs ++ xs.flatten.drop (r * z + c + cs.length)
 | [], r, c, row, cs, _, h, _ => by simp at h
 | x :: xs, 0, c, row, cs, hw, h, hc => by
  obtain rfl : x = row := by simpa using h
  have h1 : x.length = z := hw x (by simp)
  simp only [List.set_cons_zero, List.flatten_cons, Nat.zero_mul, Nat.zero_add]
  rw [List.take_append_of_le_length (by omega), List.drop_append_of_le_length (by omega)]
  simp only [List.append_assoc]
 | x :: xs, r + 1, c, row, cs, hw, h, hc => by
  have h1 : x.length = z := hw x (by simp)
  have ih := oj (xs := xs) (r := r) (c := c) (row := row) (cs := cs) (fun q hq => hw q (by simp [hq])) (by simpa using h) hc
  simp only [List.set_cons_succ, List.flatten_cons, ih]
  have e : (r + 1) * z + c = x.length + (r * z + c) := by rw [h1, Nat.add_mul, Nat.one_mul]; omega
  rw [e, List.take_length_add_append, Nat.add_assoc x.length, List.drop_length_add_append]
  simp only [List.append_assoc]
section
variable {P : Program} [dI P] {N n0 : Nat} {Q : bY} {ops : Array Oper} {rest : List Oper} {σ : List (Nat × AV)} {H A : List (Nat × Nat × AV)} {O O2 : List (Nat × Kind)} {n i : Nat}
 {d : Nat} {op : Op} {ty : TypeId} {pos : String} {af : Array Edge} {gd : Option (Nat × Bool)} {s : St} {w0 : World} {g0 : G} {a : Act} {w : World} {g : G}
theorem s8 {t e : TypeId} {x ix : Operand} {z k : Nat} {xs : List (List AV)} {kk : IntKind} {iv : Int} {j je : TI} (ht : ti P t = some j) (hk : j.k = .slice e) (he : ti P e = some je) (hz : Nat.beq je.size z = true)
  (hx : ev s.σ x = .own k) (hO : dk s.O k = some (.wr z xs)) (hi : ev s.σ ix = .int kk iv) (h0 : 0 ≤ iv) (h1 : iv < xs.length) : eV P N n0 s (.indexAddr t x ix) (.eptr k iv.toNat 0) := by
 rintro ⟨dst, op, type, pos, after, guard⟩ rfl w0 g0 a w g hin
 obtain ⟨_, _, _, h2⟩ := aV ht
 obtain ⟨_, _, _, h3⟩ := aV he
 have hd := h2.desc_slice hk
 simp only [Nat.beq_eq] at hz
 have r1 := bA hin.slots x
 rw [hx] at r1
 have r2 := bA hin.slots ix
 rw [hi] at r2
 obtain ⟨_, q2, ad, cap, q3, q4, q5, q6⟩ := hin.owns.at hO
 have e1 : g.own k = some (a.eval x) := r1
 rw [q3] at e1
 have e2 : a.eval ix = .int kk iv := r2
 cases ad with
 | none => have := (q5 rfl).1; subst this; simp at h1; omega
 | some ad =>
  obtain ⟨ho, _⟩ := q6 ad rfl
  obtain ⟨b, off, sp⟩ := ad
  obtain rfl : sp = none := ho.1
  have hpe : P.elem t = e := by simp [Program.elem, h2.und, hd]
  have hcond : 0 ≤ iv ∧ iv < (xs.length : Int) := ⟨h0, h1⟩
  refine ⟨.pointer (some ⟨b, off + iv.toNat * je.size, none⟩), bG ?_, ⟨b, off, none⟩, xs.length, cap, q3, by rw [q2, hz]; rfl⟩
  rw [← Ke e1, e2, run_indexAt_slice w t ⟨b, off, none⟩ xs.length cap kk iv (by rw [h2.und, hd, hpe]), if_pos hcond, hpe]
  simp [h3.run_size, dz]
def FU (i : TI) (row : List AV) (c : Nat) : Option AV :=
 match i.k.agg with
 | some true => if Nat.ble (c + i.size) row.length then some (.agg ((row.drop c).take i.size)) else none
 | some false => row[c]?
 | none => none
theorem yi (hin : dh N n0 w0 g0 s a w g) {z k : Nat} {xs : List (List AV)} (hO : dk s.O k = some (.wr z xs)) {ad : Addr} {l cap : Nat} (ho : g.own k = some (.slice (some ad) l cap)) :
  eB z xs ∧ g.wd k = z ∧ l = xs.length ∧ xs.length ≤ cap ∧ mM k w g ad (cap * z) ∧ g.top ad.block ≤ ad.off ∧ ∃ vs, aG w g xs.flatten vs ∧ ∀ j v, vs[j]? = some v → w.cell? ⟨ad.block, ad.off + j, none⟩ = some v := by
 obtain ⟨q1, q2, ad', cap', q3, q4, q5, q6⟩ := hin.owns.at hO
 rw [ho] at q3
 obtain ⟨rfl, rfl, rfl⟩ : some ad = ad' ∧ l = xs.length ∧ cap = cap' := by simpa using q3
 obtain ⟨p1, p2, p3⟩ := q6 ad rfl
 exact ⟨q1, q2, rfl, q4, p1, p2, p3⟩
theorem Ba {z : Nat} : ∀ {xs : List (List AV)} {r c : Nat} {row : List AV}, eB z xs → xs[r]? = some row → c ≤ z → (xs.flatten.drop (r * z + c)) = row.drop c ++ (xs.drop (r + 1)).flatten
 | [], r, c, row, _, h, _ => by simp at h
 | x :: xs, 0, c, row, hw, h, hc => by
  obtain rfl : x = row := by simpa using h
  have h1 : x.length = z := hw x (by simp)
  simp only [List.flatten_cons, Nat.zero_mul, Nat.zero_add, List.drop_succ_cons, List.drop_zero]
  rw [List.drop_append_of_le_length (by omega)]
 | x :: xs, r + 1, c, row, hw, h, hc => by
  have h1 : x.length = z := hw x (by simp)
  have ih := Ba (xs := xs) (r := r) (c := c) (row := row) (fun q hq => hw q (by simp [hq])) (by simpa using h) hc
  have e : (r + 1) * z + c = x.length + (r * z + c) := by rw [h1, Nat.add_mul, Nat.one_mul]; omega
  simp only [List.flatten_cons, List.drop_succ_cons]
  rw [e, List.drop_length_add_append, ih]
theorem Da {t : TypeId} {x : Operand} {z k r c : Nat} {xs : List (List AV)} {row : List AV} {y : AV} {i : TI} (ht : ti P t = some i) (hx : ev s.σ x = .eptr k r c) (hO : dk s.O k = some (.wr z xs)) (hr : xs[r]? = some row)
  (hc : Nat.blt c z = true) (hy : FU i row c = some y) : eV P N n0 s (.load t x) y := by
 rintro ⟨dst, op, type, pos, after, guard⟩ rfl w0 g0 a w g hin
 obtain ⟨_, _, _, h2⟩ := aV ht
 have r1 := bA hin.slots x
 rw [hx] at r1
 obtain ⟨ad, l, cap, ho, hp⟩ := r1
 obtain ⟨hw, hwd, rfl, hcap, hours, _, vs, hrep, hcell⟩ := yi hin hO ho
 simp only [Nat.blt_eq] at hc
 have hrow : row.length = z := hw row (List.mem_of_getElem? hr)
 have hlt : r < xs.length := (List.getElem?_eq_some_iff.1 hr).1
 rw [hwd] at hp
 have hfl := Ba (c := c) hw hr (by omega)
 have hdr := aG.drop (r * z + c) hrep
 rw [hfl] at hdr
 unfold FU at hy
 split at hy
 ·
  rename_i hg
  split at hy
  ·
   rename_i hb
   obtain rfl := Ke hy
   simp only [Nat.ble_eq] at hb
   have htk := aG.take i.size hdr
   rw [List.take_append_of_le_length (by simp; omega)] at htk
   have hload := run_loadCells_list (P := P) w ⟨ad.block, ad.off + r * z + c, none⟩ ((vs.drop (r * z + c)).take i.size) (fun j v hv => by
    rw [dz]
    rw [List.getElem?_take] at hv
    split at hv
    ·
     rw [List.getElem?_drop] at hv
     have := hcell _ v hv
     rwa [show ad.off + (r * z + c + j) = ad.off + r * z + c + j by omega] at this
    · cases hv)
   have hl : ((vs.drop (r * z + c)).take i.size).length = i.size := by rw [htk.length]; simp; omega
   rw [hl] at hload
   refine ⟨.agg ((vs.drop (r * z + c)).take i.size).toArray, bG ?_, _, rfl, htk⟩
   rw [hp]
   simp [Instr.loadAt, Instr.sureAddr, loadVar, h2.run_agg hg, h2.run_size, hload]
  · cases hy
 ·
  rename_i hg
  have hy0 : (row.drop c)[0]? = some y := by simpa using hy
  obtain ⟨v, hv, rv⟩ := aG.get hdr (i := 0) (x := y) (by rw [List.getElem?_append_left (by simp; omega)]; exact hy0)
  rw [List.getElem?_drop] at hv
  have := hcell _ v hv
  refine ⟨v, bG ?_, rv⟩
  rw [hp]
  have hc' : w.cell? ⟨ad.block, ad.off + r * z + c, none⟩ = some v := by rwa [show ad.off + (r * z + c + 0) = ad.off + r * z + c by omega] at this
  simp [Instr.loadAt, Instr.sureAddr, loadVar, h2.run_agg hg, hc']
 · cases hy
theorem dh.wrote (hin : dh N n0 w0 g0 s a w g) {z k r c : Nat} {xs : List (List AV)} {row cs : List AV} {vals : List Value} (hO : dk s.O k = some (.wr z xs)) {ad : Addr} {l cap : Nat} (ho : g.own k = some (.slice (some ad) l cap))
  (hr : xs[r]? = some row) (hc : c + cs.length ≤ z) (hv : aG w g cs vals) : (∀ j, j < vals.length → (w.cell? ⟨ad.block, ad.off + r * z + c + j, none⟩).isSome = true ∧ w.frozen? ⟨ad.block, ad.off + r * z + c + j, none⟩ = false) ∧
  dh N n0 w0 g0 ⟨s.σ, s.H, (k, .wr z (xs.set r (row.take c ++ cs ++ row.drop (c + cs.length)))) :: cd [k] s.O, s.n⟩ a (w.setCells ad.block (ad.off + r * z + c) vals) g := by
 obtain ⟨hw, hwd, rfl, hcap, ⟨hsp, howner, cc, e, fr, hcc, hcs, hfz⟩, htop, vs, hrep, hcell⟩ := yi hin hO ho
 obtain ⟨b, off, sp⟩ := ad
 simp only at hsp howner hcc hcs htop hcell
 subst hsp
 have hlen := hv.length
 have hrow : row.length = z := hw row (List.mem_of_getElem? hr)
 have hlt : r < xs.length := (List.getElem?_eq_some_iff.1 hr).1
 have hm1 : (r + 1) * z ≤ xs.length * z := Nat.mul_le_mul_right _ hlt
 have hm2 : xs.length * z ≤ cap * z := Nat.mul_le_mul_right _ hcap
 rw [Nat.add_mul, Nat.one_mul] at hm1
 have hvl : vs.length = xs.length * z := by rw [hrep.length, hw.flatten_length]
 let p := off + r * z + c
 let w' := w.setCells b p vals
 have hok : ∀ j, j < vals.length → (w.cell? ⟨b, p + j, none⟩).isSome = true ∧ w.frozen? ⟨b, p + j, none⟩ = false := fun j hj => by
  have hin' : p + j < cc.size := by simp only [p]; omega
  exact ⟨by rw [lr hcc]; simp [hin'], tt hcc hfz hin'⟩
 refine ⟨hok, ?_⟩
 obtain ⟨m1, m2, m3, m4⟩ := lc b vals p w
 obtain ⟨c', hc', hcs'⟩ := km b vals p w hcc
 have hst : ∀ c o, o < g.top c → w'.cell? ⟨c, o, none⟩ = w.cell? ⟨c, o, none⟩ := fun c o ho => by
  refine World.cell?_setCells_out b vals p w _ fun e _ => .inl ?_
  simp only at e; subst e; show o < p; simp only [p]; omega
 have hm : gC w g w' g := ⟨⟨fun _ => Nat.le_refl _, hst⟩, fun _ _ e => e, fun _ _ e => e, fun _ _ _ => rfl⟩
 refine hin.turn (w' := w') (g' := g) (n' := s.n) (O' := [(k, .wr z (xs.set r (row.take c ++ cs ++ row.drop (c + cs.length))))]) [k] m1 m2 m3 (by rw [m4]; exact Nat.le_refl _) hst (fun _ => Nat.le_refl _)
  (fun b' hb' hno => by
   have hbb : b' ≠ b := fun e => by subst e; exact hno k (by simp) howner
   exact ⟨ke b vals p w hbb, rfl, rfl⟩)
  (fun _ _ _ _ h => h) (fun _ _ => ⟨rfl, rfl, rfl⟩)
  (fun i hi => by
   obtain rfl : i = k := by simpa using hi
   exact ⟨_, ho⟩)
  { hin.wf with topNew := fun b hb => hin.wf.topNew b (by rwa [m4] at hb), ownNew := fun b hb => hin.wf.ownNew b (by rwa [m4] at hb), blkOwner := fun id b hb => (by
    obtain ⟨k1, k2, k3, k4⟩ := hin.wf.blkOwner id b hb
    exact ⟨k1, (by rw [m4]; exact k2), k3, k4⟩) } (Nat.le_refl _) (fun i K hx => ?_)
 simp only [dk] at hx
 split at hx
 ·
  rename_i hi
  have hi' : k = i := by simpa using hi
  subst hi'
  obtain rfl := Ke hx
  refine ⟨fun q hq => ?_, hwd, some ⟨b, off, none⟩, cap, by rw [ho]; simp, by simpa using hcap, (fun e => by cases e), fun ad eq => ?_⟩
  ·
   rcases List.mem_or_eq_of_mem_set hq with hq | rfl
   · exact hw q hq
   · simp; omega
  ·
   obtain rfl := Ke eq
   refine ⟨⟨rfl, howner, c', e, fr, hc', by show off + cap * z ≤ c'.size; omega, by rw [hcs']; exact hfz⟩, htop, vs.take (r * z + c) ++ vals ++ vs.drop (r * z + c + vals.length), ?_, fun j v hj => ?_⟩
   ·
    rw [oj hw hr hc, hlen]
    exact aG.append (aG.append (aG.mono _ _ hm (aG.take _ hrep)) (aG.mono _ _ hm hv)) (aG.mono _ _ hm (aG.drop _ hrep))
   ·
    rw [l0 _ _ _ _ (by omega)] at hj
    split at hj
    ·
     rename_i hh
     obtain ⟨h1, h2⟩ := hh
     obtain ⟨h3, rfl⟩ := List.getElem?_eq_some_iff.1 hj
     have := World.cell?_setCells_in b vals p w (fun i hi => (hok i hi).1) (j - (r * z + c)) h3
     show w'.cell? ⟨b, off + j, none⟩ = _
     rwa [show p + (j - (r * z + c)) = off + j by simp only [p]; omega] at this
    ·
     rename_i hh
     rw [← hcell j v hj]
     refine World.cell?_setCells_out b vals p w _ fun _ _ => ?_
     show off + j < p ∨ p + vals.length ≤ off + j
     simp only [p]
     by_cases h : r * z + c ≤ j
     · right; have := fun h2 => hh ⟨h, h2⟩; omega
     · left; omega
 · cases hx
theorem JI {t : TypeId} {x y : Operand} {z k r c : Nat} {xs : List (List AV)} {row cs : List AV} {i : TI} (ht : ti P t = some i) (hx : ev σ x = .eptr k r c) (hO : dk O k = some (.wr z xs)) (hr : xs[r]? = some row)
  (hcs : DZ (ka (ev σ y)) = some cs) (hsz : Nat.beq cs.length i.size = true) (h1 : cs.all AV.one = true) (hc : Nat.ble (c + cs.length) z = true) (hO2 : o0 (cd [k] O) some = some O2)
  (kk : aM P N n0 ops rest Q ⟨σ, H, (k, .wr z (xs.set r (row.take c ++ cs ++ row.drop (c + cs.length)))) :: O2, n⟩) :
  aM P N n0 ops (⟨none, .store t x y, ty, pos, af, none⟩ :: rest) Q ⟨σ, H, O, n⟩ := by
 rw [vP] at hcs
 rw [i8] at hO2
 obtain rfl := Ke hO2
 refine qE Z Z (fun w0 g0 a w g hi => ?_) kk
 obtain ⟨inf, _, zz, h2⟩ := aV ht
 have r1 := bA hi.slots x
 rw [show ev (St.mk σ H O n).σ x = _ from hx] at r1
 obtain ⟨ad, l, cap, ho, hp⟩ := r1
 have hz := ij hcs (bA hi.slots y) hi.wf.ownSl
 simp only [Nat.ble_eq, Nat.beq_eq] at hc hsz
 obtain ⟨hok, hi'⟩ := hi.wrote hO ho hr hc hz
 have hwd : g.wd k = z := (hi.owns.at hO).2.1
 rw [hwd] at hp
 refine ⟨_, g, ?_, hi'⟩
 have hst := run_storeCells_cells (P := P) ad.block (ad.off + r * z + c) (a.eval y).cells.toList 0 w (fun j hj => by simpa using (hok j hj).1) (fun j hj => by simpa using (hok j hj).2) (aG.ones hi.wf.ownSl hz h1)
 have hlen : (a.eval y).cells.size = i.size := by
  have := hz.length
  simpa [hsz] using this
 simp only [Nat.add_zero] at hst
 simp [execOp, Instr.storeAt, hp, Instr.sureAddr, storeVar, hlen, h2.run_size, hst]
end
end Go.Pv
namespace Go.Pv
open Go.ChangeShapes Go.WideShapes
set_option linter.unusedSimpArgs false
set_option linter.unusedSectionVars false
set_option linter.unusedVariables false
section
variable {P : Program} [dI P]
theorem xH {α : Type} {f : α → List AV} {Q : α → Prop} {e : TypeId} (h : ∀ n r, kB P n e r → ∃ a, r = f a ∧ Q a) : ∀ xs : List (List AV), (∀ r ∈ xs, ∃ n, kB P n e r) → ∃ l : List α, xs = l.map f ∧ ∀ a ∈ l, Q a
 | [], _ => ⟨[], rfl, fun _ h => by cases h⟩
 | x :: xs, hx => by
  obtain ⟨n, hn⟩ := hx x (by simp)
  obtain ⟨a, rfl, qa⟩ := h n x hn
  obtain ⟨l, rfl, ql⟩ := xH h xs fun r hr => hx r (by simp [hr])
  exact ⟨a :: l, rfl, fun b hb => by
   rcases List.mem_cons.1 hb with rfl | hb
   · exact qa
   · exact ql b hb⟩
theorem GV {n : Nat} {t e : TypeId} {i : TI} {cs : List AV} (hi : ti P t = some i) (hk : i.k = .slice e) (h : kB P n t cs) : ∃ xs, cs = [.sl xs] ∧ xs.length ≤ maxLen ∧ ∀ r ∈ xs, ∃ n, kB P n e r := by
 cases n with
 | zero => exact h.elim
 | succ n =>
  simp only [kB, hi, hk] at h
  obtain ⟨xs, h1, h2, h3⟩ := h
  exact ⟨xs, h1, h2, fun r hr => ⟨n, (h3 r hr).2⟩⟩
theorem CV {n : Nat} {t : TypeId} {i : TI} {cs : List AV} (hi : ti P t = some i) (hk : i.k = .bool) (h : kB P n t cs) : ∃ b, cs = [.bool b] := by
 cases n with
 | zero => exact h.elim
 | succ n => simpa only [kB, hi, hk] using h
theorem EC {n : Nat} {t : TypeId} {i : TI} {cs : List AV} (hi : ti P t = some i) (hk : i.k = .str) (h : kB P n t cs) : ∃ s, cs = [.str s] ∧ s.size ≤ maxLen := by
 cases n with
 | zero => exact h.elim
 | succ n => simpa only [kB, hi, hk] using h
end
end Go.Pv
namespace Go.Pv
set_option linter.unusedSectionVars false
set_option linter.unusedVariables false
section
variable {P : Program} [dI P] {N n0 : Nat} {Q : bY} {ops : Array Oper} {rest : List Oper} {σ : List (Nat × AV)} {H A : List (Nat × Nat × AV)} {O : List (Nat × Kind)} {n i : Nat}
 {d : Nat} {op : Op} {ty : TypeId} {pos : String} {af : Array Edge} {gd : Option (Nat × Bool)} {s : St}
theorem mB {k : IntKind} {a b : Int} (h : oF P s op = some (.int k a)) (e : a = b) : oF P s op = some (.int k b) := e ▸ h
theorem lb {t t2 : TypeId} {x y : Operand} {k : IntKind} {a b c : Int} (hx : gj s x = .int k a) (hy : gj s y = .int k b) (h0 : b ≠ 0) (e : a.tmod b = c) : oF P s (.binOp .rem t x y t2) = some (.int k c) := by
 simp only [oF, hx, hy, rB, v7, B8, if_neg h0, e]; simp
theorem Iv {K : St → Prop} {v : AV} (hd : Nat.blt d N = true) (hg : bH ops σ gd = some true) (hv : ∀ m, oF P ⟨ci ⟨some d, op, ty, pos, af, gd⟩ σ, H, O, m⟩ op = some v)
  (k : DP P N n0 ops H O (i + 1) rest ((d, v) :: σ) n A K) : DP P N n0 ops H O i (⟨some d, op, ty, pos, af, gd⟩ :: rest) σ n A K := by
 obtain ⟨σ', n', A', al, hp, hk⟩ := k
 exact ⟨σ', n', A', al, .go rfl hd hg (fun m => tW (hv m)) hp, hk⟩
end
end Go.Pv
namespace Go.Pv
set_option linter.unusedSectionVars false
set_option linter.unusedVariables false
end Go.Pv
