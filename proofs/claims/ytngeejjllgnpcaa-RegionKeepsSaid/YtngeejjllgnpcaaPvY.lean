/- The rules for rows and texts, as a walk applies them. -/
import Derived.Test.YtngeejjllgnpcaaPvX
import Derived.Laws.IdiomStrings
namespace Go.Pv
open Go.RowKit (Below)
set_option linter.unusedSimpArgs false
set_option linter.unusedSectionVars false
set_option linter.unusedVariables false

section
variable {P : Program} [Tab P] {N n0 : Nat} {Q : Post} {ops : Array Oper} {rest : List Oper} {σ : List (Nat × AV)} {H A : List (Nat × Nat × AV)} {O : List (Nat × Kind)} {n i : Nat}
  {d : Nat} {op : Op} {ty : TypeId} {pos : String} {af : Array Edge} {gd : Option (Nat × Bool)} {s : St}

/-! ### values -/

/-- An operation that only answers. -/
def ValAt (P : Program) (N n0 : Nat) (s : St) (op : Op) (v : AV) : Prop :=
  ∀ (o : Oper), o.op = op → ∀ w0 g0 a w g, Inv N n0 w0 g0 s a w g → ∃ u, (execOp a.eval o).run P w = .ok (.value u) w ∧ Rep w g v u

theorem va_eq {v v' : AV} (h : ValAt P N n0 s op v) (e : v = v') : ValAt P N n0 s op v' := e ▸ h

theorem rV {v : AV} (hd : Nat.blt d N = true) (hv : ValAt P N n0 ⟨σ, H, O, n⟩ op v) (k : aops P N n0 ops rest Q ⟨(d, v) :: σ, H, O, n⟩) :
    aops P N n0 ops (⟨some d, op, ty, pos, af, none⟩ :: rest) Q ⟨σ, H, O, n⟩ :=
  aops_value rfl (fun w0 g0 a w g hi => by
    obtain ⟨u, hu, hr⟩ := hv ⟨some d, op, ty, pos, af, none⟩ rfl w0 g0 a w g hi
    exact ⟨u, w, g, hu, hi.put (d := some d) hr hd⟩) k

theorem dV {K : St → Prop} {v : AV} (hd : Nat.blt d N = true) (hg : wantedS ops σ gd = some true) (hv : ∀ m, ValAt P N n0 ⟨restr ⟨some d, op, ty, pos, af, gd⟩ σ, H, O, m⟩ op v)
    (k : DP P N n0 ops H O (i + 1) rest ((d, v) :: σ) n A K) : DP P N n0 ops H O i (⟨some d, op, ty, pos, af, gd⟩ :: rest) σ n A K := by
  obtain ⟨σ', n', A', al, hp, hk⟩ := k
  exact ⟨σ', n', A', al, .go rfl hd hg (fun m => step_value fun w0 g0 a w g hi => hv m { dst := some d, op := op, type := ty, pos := pos, after := af, guard := none } rfl w0 g0 a w g hi) hp, hk⟩

/-- A byte of a text. -/
def bAt (b : ByteArray) (k : Int) : Int := ((b.data.toList[k.toNat]?).map fun c => (c.toNat : Int)).getD 0

theorem va_index {t : TypeId} {x ix : Operand} {b : ByteArray} {k : IntKind} {iv : Int} {j : TI} (ht : ti P t = some j) (hk : j.k = .str) (hx : evs s x = .str b) (hi : ev s.σ ix = .int k iv) (h0 : 0 ≤ iv) (h1 : iv < b.size) :
    ValAt P N n0 s (.index t x ix) (.int .u8 (bAt b iv)) := by
  rintro ⟨dst, op, type, pos, after, guard⟩ rfl w0 g0 a w g hin
  obtain ⟨_, _, _, h2⟩ := ti_tells ht
  have hu : P.underlying t = some .string := by rw [h2.und, h2.desc_str hk]
  have r1 := rep_evs hin x
  rw [hx] at r1
  have r2 := rep_ev hin.slots ix
  rw [hi] at r2
  have e1 : a.eval x = .string b := r1
  have e2 : a.eval ix = .int k iv := r2
  have hlt : iv.toNat < b.size := by omega
  have hb : b[iv.toNat]? = some b.data.toList[iv.toNat] := by
    rw [getElem?_pos b iv.toNat hlt]; rfl
  refine ⟨.int .u8 (bAt b iv), run_value (u := .int .u8 (bAt b iv)) ?_, rfl⟩
  rw [e1, e2]
  have hl : iv.toNat < b.data.toList.length := by simpa using hlt
  simp only [Instr.index, Sem.run_bind, asIntOf, Sem.run_pure, Result.andThen_ok, run_underlying hu, if_pos h0, hb, bAt, List.getElem?_eq_getElem hl]
  simp

theorem va_cat {t y2 : TypeId} {x y : Operand} {b c : ByteArray} (hx : evs s x = .str b) (hy : evs s y = .str c) (h : b.size + c.size ≤ maxLen) : ValAt P N n0 s (.binOp .add t x y y2) (.str (b ++ c)) := by
  rintro ⟨dst, op, type, pos, after, guard⟩ rfl w0 g0 a w g hin
  have r1 := rep_evs hin x
  rw [hx] at r1
  have r2 := rep_evs hin y
  rw [hy] at r2
  have e1 : a.eval x = .string b := r1
  have e2 : a.eval y = .string c := r2
  refine ⟨.string (b ++ c), run_value ?_, rfl⟩
  rw [e1, e2]
  have hn : ¬ (((b.size + c.size : Nat) : Int) > IntKind.i64.max) := by
    unfold maxLen at h
    have : IntKind.i64.max = 9223372036854775807 := by decide
    rw [this]; omega
  simp only [Sem.run_bind, eqGuard_at_string, Sem.run_pure, Result.andThen_ok, binOp, Op.stringOp]
  rw [if_neg hn]; rfl

theorem run_bounds {w : World} {len cap l h : Nat} {lo hi : Option Value} (hlo : match lo with | some v => ∃ k, v = .int k (l : Int) | none => l = 0) (hhi : match hi with | some v => ∃ k, v = .int k (h : Int) | none => h = len)
    (b : Bool) (hlh : l ≤ h) (hc : h ≤ cap) : (Instr.sliceBounds b len cap lo hi none).run P w = .ok (l, h, cap) w := by
  have hb : ∀ {k : IntKind} {m y : Nat} {c : BoundsCode}, m ≤ y → (Instr.sliceBound (.int k (m : Int)) y c).run P w = .ok m w := fun {k m y c} hm => by
    simp only [Instr.sliceBound, asIntOf, Sem.run_bind, Sem.run_pure, Result.andThen_ok]
    rw [if_pos ⟨by omega, by omega⟩]; simp
  cases lo <;> cases hi <;> simp only at hlo hhi
  · subst hlo; subst hhi
    simp [Instr.sliceBounds]
  · subst hlo
    obtain ⟨k, rfl⟩ := hhi
    simp [Instr.sliceBounds, hb hc]
  · subst hhi
    obtain ⟨k, rfl⟩ := hlo
    simp [Instr.sliceBounds, hb hlh]
  · obtain ⟨k, rfl⟩ := hlo
    obtain ⟨k', rfl⟩ := hhi
    simp [Instr.sliceBounds, hb hc, hb hlh]

theorem run_bounds3 {w : World} {len cap l h m : Nat} {lo : Option Value} {hi mx : Value} (hlo : match lo with | some v => ∃ k, v = .int k (l : Int) | none => l = 0) (hhi : ∃ k, hi = .int k (h : Int)) (hmx : ∃ k, mx = .int k (m : Int))
    (b : Bool) (hlh : l ≤ h) (hc : h ≤ m) (hm : m ≤ cap) : (Instr.sliceBounds b len cap lo (some hi) (some mx)).run P w = .ok (l, h, m) w := by
  have hb : ∀ {k : IntKind} {m y : Nat} {c : BoundsCode}, m ≤ y → (Instr.sliceBound (.int k (m : Int)) y c).run P w = .ok m w := fun {k m y c} hm => by
    simp only [Instr.sliceBound, asIntOf, Sem.run_bind, Sem.run_pure, Result.andThen_ok]
    rw [if_pos ⟨by omega, by omega⟩]; simp
  obtain ⟨k1, rfl⟩ := hhi
  obtain ⟨k2, rfl⟩ := hmx
  cases lo <;> simp only at hlo
  · subst hlo
    simp [Instr.sliceBounds, hb hc, hb hm]
  · obtain ⟨k, rfl⟩ := hlo
    simp [Instr.sliceBounds, hb hc, hb hlh, hb hm]

/-- A bound of a slice, as an operand. -/
def bnd (s : St) (d : Nat) : Option Operand → Nat → Prop
  | none, l => l = d
  | some x, l => ∃ k, ev s.σ x = .int k (l : Int)

theorem bnd_val {w0 : World} {g0 : G} {a : Act} {w : World} {g : G} (hin : Inv N n0 w0 g0 s a w g) {dd l : Nat} {x : Option Operand} (h : bnd s dd x l) :
    match x.map a.eval with | some v => ∃ k, v = .int k (l : Int) | none => l = dd := by
  cases x with
  | none => exact h
  | some x =>
    obtain ⟨k, hk⟩ := h
    have r := rep_ev hin.slots x
    rw [hk] at r
    exact ⟨k, r⟩

theorem va_substr {t : TypeId} {x : Operand} {lo hi : Option Operand} {b : ByteArray} {l h : Nat} {j : TI} (ht : ti P t = some j) (hk : j.k = .str) (hx : evs s x = .str b)
    (hlo : bnd s 0 lo l) (hhi : bnd s b.size hi h) (hlh : l ≤ h) (hb : h ≤ b.size) : ValAt P N n0 s (.slice t x lo hi none) (.str (b.extract l h)) := by
  rintro ⟨dst, op, type, pos, after, guard⟩ rfl w0 g0 a w g hin
  obtain ⟨_, _, _, h2⟩ := ti_tells ht
  have hu : P.underlying t = some .string := by rw [h2.und, h2.desc_str hk]
  have r1 := rep_evs hin x
  rw [hx] at r1
  have e1 : a.eval x = .string b := r1
  have := run_bounds (P := P) (w := w) (len := b.size) (cap := b.size) (bnd_val hin hlo) (bnd_val hin hhi) false hlh hb
  refine ⟨.string (b.extract l h), run_value ?_, rfl⟩
  simp [Instr.sliceAt, Instr.slice, run_underlying hu, e1, this]

theorem sl_part {w : World} {g : G} {z : Nat} {xs : List (List AV)} {l h m : Nat} {ad : Option Addr} {cap : Nat} (hw : Wide z xs) (hlh : l ≤ h) (hh : h ≤ xs.length) (hm : h ≤ m) (hc : xs.length ≤ cap) (hn : ad = none → xs = [])
    (hrows : ∀ b, ad = some b → (xs ≠ [] → b.spot = none) ∧ RepRows w g.top b.block b.off xs) :
    Rep w g (.sl ((xs.take h).drop l)) (.slice (if m = l then ad else ad.map (·.add (l * z))) (h - l) (m - l)) := by
  have hlen : ((xs.take h).drop l).length = h - l := by simp; omega
  refine ⟨_, m - l, by rw [hlen], by omega, fun e => ?_, fun b e => ?_⟩
  · have : ad = none := by
      split at e
      · exact e
      · simpa using e
    rw [hn this]; simp
  · by_cases hml : m = l
    · rw [if_pos hml] at e
      have : (xs.take h).drop l = [] := List.eq_nil_of_length_eq_zero (by omega)
      rw [this]
      exact ⟨fun h => absurd rfl h, trivial⟩
    · rw [if_neg hml] at e
      cases had : ad with
      | none => rw [had] at e; cases e
      | some b0 =>
        rw [had] at e
        obtain rfl := Option.some.inj e
        obtain ⟨p1, p2⟩ := hrows b0 had
        by_cases hx : xs = []
        · subst hx
          exact ⟨fun h => absurd (by simp) h, by simp [RepRows]⟩
        · obtain ⟨bb, off, sp⟩ := b0
          obtain rfl := p1 hx
          simp only [addr_add]
          exact ⟨fun _ => (by trivial), RepRows.drop (n := z) l (fun r hr => hw r (List.mem_of_mem_take hr)) (RepRows.take h p2) (by simp; omega)⟩

/-- A part of a row. -/
theorem va_sub {t e : TypeId} {x : Operand} {lo hi : Option Operand} {xs : List (List AV)} {l h : Nat} {j je : TI} (ht : ti P t = some j) (hk : j.k = .slice e) (he : ti P e = some je) (hx : evs s x = .sl xs)
    (hlo : bnd s 0 lo l) (hhi : bnd s xs.length hi h) (hlh : l ≤ h) (hb : h ≤ xs.length) (hw : Wide je.size xs) : ValAt P N n0 s (.slice t x lo hi none) (.sl ((xs.take h).drop l)) := by
  rintro ⟨dst, op, type, pos, after, guard⟩ rfl w0 g0 a w g hin
  obtain ⟨_, _, _, h2⟩ := ti_tells ht
  obtain ⟨_, _, _, h3⟩ := ti_tells he
  have hu : P.underlying t = some (.slice e) := by rw [h2.und, h2.desc_slice hk]
  have r1 := rep_evs hin x
  rw [hx] at r1
  obtain ⟨ad, cap, e1, hc, hn, had⟩ := r1
  have := run_bounds (P := P) (w := w) (len := xs.length) (cap := cap) (bnd_val hin hlo) (bnd_val hin hhi) true hlh (by omega)
  refine ⟨_, run_value (u := .slice (if cap = l then ad else ad.map (·.add (l * je.size))) (h - l) (cap - l)) ?_, sl_part hw hlh hb (by omega) hc hn had⟩
  simp only [Instr.sliceAt, Instr.slice, Sem.run_bind, run_underlying hu, Result.andThen_ok, e1, Option.map_none, this, h3.run_size, Sem.run_pure]

/-- A row's bytes as a text. -/
theorem va_text {src dst' e : TypeId} {x : Operand} {b : ByteArray} {j je jd : TI} (ht : ti P src = some j) (hk : j.k = .slice e) (he : ti P e = some je) (hke : je.k = .int .u8) (hz : Nat.beq je.size 1 = true) (hd : ti P dst' = some jd) (hkd : jd.k = .str)
    (hx : evs s x = .sl (bytesR b)) : ValAt P N n0 s (.convert src dst' x) (.str b) := by
  rintro ⟨dst, op, type, pos, after, guard⟩ rfl w0 g0 a w g hin
  obtain ⟨_, _, _, h2⟩ := ti_tells ht
  obtain ⟨_, _, _, h3⟩ := ti_tells he
  obtain ⟨_, _, _, h4⟩ := ti_tells hd
  have hu : P.underlying src = some (.slice e) := by rw [h2.und, h2.desc_slice hk]
  have hue : P.underlying e = some (.int .u8) := by rw [h3.und, h3.desc_int hke]
  have hud : P.underlying dst' = some .string := by rw [h4.und, h4.desc_str hkd]
  have r1 := rep_evs hin x
  rw [hx] at r1
  obtain ⟨ad, cap, e1, hc, hn, had⟩ := r1
  refine ⟨.string b, run_value ?_, rfl⟩
  rw [e1]
  have hbl := bytesR_length b
  cases ad with
  | none =>
    have : bytesR b = [] := hn rfl
    rw [this] at hbl
    have hb : b = ByteArray.empty := by
      have h0 : b.data.size = 0 := hbl.symm
      have : b.data = #[] := Array.eq_empty_of_size_eq_zero h0
      cases b; simp only at this; subst this; rfl
    subst hb
    simp [convert, run_underlying hu, run_underlying hue, run_underlying hud, Conv.bytesToString]
  | some ad =>
    obtain ⟨hs, hrows⟩ := had ad rfl
    obtain ⟨vs, hl, hrep, hcell⟩ := RepAt.cells (G.ofTop g.top) (RepRows.flat hrows) rfl
    have hvs : vs = b.data.toList.map fun c => Value.int .u8 c.toNat := by
      rw [bytesR_flat] at hrep
      clear hcell hl hbl e1 hc hn had hx hs hrows
      generalize b.data.toList = l at hrep
      induction l generalizing vs with
      | nil => simpa [RepL] using hrep
      | cons c l ih =>
        obtain ⟨v, vs', rfl, hv, hrest⟩ := hrep
        obtain rfl : v = _ := hv
        rw [List.map_cons, ih vs' hrest]
    have := run_convert_bytes_back (P := P) w src dst' e ad cap b.data.toList hu hue hud (fun k hk => by
      have hne : bytesR b ≠ [] := fun e => by
        have h1 : (bytesR b).length = b.data.toList.length := by simp [bytesR]
        rw [e] at h1
        simp only [List.length_nil] at h1; omega
      have hsp := hs hne
      obtain ⟨bb, off, sp⟩ := ad
      simp only at hsp; subst hsp
      rw [addr_add]
      exact hcell k _ (by rw [hvs, List.getElem?_map, List.getElem?_eq_getElem hk]; rfl))
    have e2 : (bytesR b).length = b.data.toList.length := by simp [bytesR]
    rw [e2]
    simpa using this

end
end Go.Pv
