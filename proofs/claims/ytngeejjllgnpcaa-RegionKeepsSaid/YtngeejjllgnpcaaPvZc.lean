/- Rows that are written into: an element's place, what it holds, and a store. -/
import Derived.Test.YtngeejjllgnpcaaPvZb
namespace Go.Pv
set_option linter.unusedSimpArgs false
set_option linter.unusedSectionVars false
set_option linter.unusedVariables false

theorem flatten_patch {z : Nat} : ∀ {xs : List (List AV)} {r c : Nat} {row cs : List AV}, Wide z xs → xs[r]? = some row → c + cs.length ≤ z →
    (xs.set r (row.take c ++ cs ++ row.drop (c + cs.length))).flatten = xs.flatten.take (r * z + c) ++ cs ++ xs.flatten.drop (r * z + c + cs.length)
  | [], r, c, row, cs, _, h, _ => by simp at h
  | x :: xs, 0, c, row, cs, hw, h, hc => by
    obtain rfl : x = row := by simpa using h
    have h1 : x.length = z := hw x (by simp)
    simp only [List.set_cons_zero, List.flatten_cons, Nat.zero_mul, Nat.zero_add]
    rw [List.take_append_of_le_length (by omega), List.drop_append_of_le_length (by omega)]
    simp only [List.append_assoc]
  | x :: xs, r + 1, c, row, cs, hw, h, hc => by
    have h1 : x.length = z := hw x (by simp)
    have ih := flatten_patch (xs := xs) (r := r) (c := c) (row := row) (cs := cs) (fun q hq => hw q (by simp [hq])) (by simpa using h) hc
    simp only [List.set_cons_succ, List.flatten_cons, ih]
    have e : (r + 1) * z + c = x.length + (r * z + c) := by rw [h1, Nat.add_mul, Nat.one_mul]; omega
    rw [e, List.take_length_add_append, Nat.add_assoc x.length, List.drop_length_add_append]
    simp only [List.append_assoc]

section
variable {P : Program} [Tab P] {N n0 : Nat} {Q : Post} {ops : Array Oper} {rest : List Oper} {σ : List (Nat × AV)} {H A : List (Nat × Nat × AV)} {O O2 : List (Nat × Kind)} {n i : Nat}
  {d : Nat} {op : Op} {ty : TypeId} {pos : String} {af : Array Edge} {gd : Option (Nat × Bool)} {s : St} {w0 : World} {g0 : G} {a : Act} {w : World} {g : G}

/-- An element's place. -/
theorem va_place {t e : TypeId} {x ix : Operand} {z k : Nat} {xs : List (List AV)} {kk : IntKind} {iv : Int} {j je : TI} (ht : ti P t = some j) (hk : j.k = .slice e) (he : ti P e = some je) (hz : Nat.beq je.size z = true)
    (hx : ev s.σ x = .own k) (hO : lkO s.O k = some (.wr z xs)) (hi : ev s.σ ix = .int kk iv) (h0 : 0 ≤ iv) (h1 : iv < xs.length) : ValAt P N n0 s (.indexAddr t x ix) (.eptr k iv.toNat 0) := by
  rintro ⟨dst, op, type, pos, after, guard⟩ rfl w0 g0 a w g hin
  obtain ⟨_, _, _, h2⟩ := ti_tells ht
  obtain ⟨_, _, _, h3⟩ := ti_tells he
  have hd := h2.desc_slice hk
  simp only [Nat.beq_eq] at hz
  have r1 := rep_ev hin.slots x
  rw [hx] at r1
  have r2 := rep_ev hin.slots ix
  rw [hi] at r2
  obtain ⟨_, q2, ad, cap, q3, q4, q5, q6⟩ := hin.owns.at hO
  have e1 : g.own k = some (a.eval x) := r1
  rw [q3] at e1
  have e2 : a.eval ix = .int kk iv := r2
  cases ad with
  | none => have := (q5 rfl).1; subst this; simp at h1; omega
  | some ad =>
    obtain ⟨ho, _⟩ := q6 ad rfl
    obtain ⟨b, off, sp⟩ := ad
    obtain rfl : sp = none := ho.1
    have hpe : P.elem t = e := by simp [Program.elem, h2.und, hd]
    have hcond : 0 ≤ iv ∧ iv < (xs.length : Int) := ⟨h0, h1⟩
    refine ⟨.pointer (some ⟨b, off + iv.toNat * je.size, none⟩), run_value ?_, ⟨b, off, none⟩, xs.length, cap, q3, by rw [q2, hz]; rfl⟩
    rw [← Option.some.inj e1, e2, run_indexAt_slice w t ⟨b, off, none⟩ xs.length cap kk iv (by rw [h2.und, hd, hpe]), if_pos hcond, hpe]
    simp [h3.run_size, addr_add]

/-- How many elements a row that is written has. -/
theorem va_len {t e : TypeId} {x : Operand} {z k : Nat} {xs : List (List AV)} {j : TI} (ht : ti P t = some j) (hk : j.k = .slice e) (hx : ev s.σ x = .own k) (hO : lkO s.O k = some (.wr z xs)) :
    ValAt P N n0 s (.call ⟨.builtin .len, #[x], #[t]⟩) (.int .i64 (xs.length : Int)) := by
  rintro ⟨dst, op, type, pos, after, guard⟩ rfl w0 g0 a w g hin
  obtain ⟨_, _, _, h2⟩ := ti_tells ht
  have hd := h2.desc_slice hk
  have r1 := rep_ev hin.slots x
  rw [hx] at r1
  obtain ⟨_, q2, ad, cap, q3, q4, q5, q6⟩ := hin.owns.at hO
  have e1 : g.own k = some (a.eval x) := r1
  rw [q3] at e1
  refine ⟨.int .i64 (xs.length : Int), ?_, rfl⟩
  have hrun : (builtin .len #[t] type (#[x].map fun | .const _ => true | _ => false) (#[x].map a.eval)).run P w = .ok (.value (.int .i64 (xs.length : Int))) w := by
    simp only [builtin]
    refine run_value (u := .int .i64 (xs.length : Int)) ?_
    have : (#[x].map a.eval) = #[a.eval x] := by simp
    rw [this, ← Option.some.inj e1]
    subst hd
    simp [Builtin.len_, h2.run_und, goInt]
  exact hrun

/-- What is read there. -/
def loadE (i : TI) (row : List AV) (c : Nat) : Option AV :=
  match i.k.agg with
  | some true => if Nat.ble (c + i.size) row.length then some (.agg ((row.drop c).take i.size)) else none
  | some false => row[c]?
  | none => none

theorem wr_cells (hin : Inv N n0 w0 g0 s a w g) {z k : Nat} {xs : List (List AV)} (hO : lkO s.O k = some (.wr z xs)) {ad : Addr} {l cap : Nat} (ho : g.own k = some (.slice (some ad) l cap)) :
    Wide z xs ∧ g.wd k = z ∧ l = xs.length ∧ xs.length ≤ cap ∧ Ours k w g ad (cap * z) ∧ g.top ad.block ≤ ad.off ∧ ∃ vs, RepL w g xs.flatten vs ∧ ∀ j v, vs[j]? = some v → w.cell? ⟨ad.block, ad.off + j, none⟩ = some v := by
  obtain ⟨q1, q2, ad', cap', q3, q4, q5, q6⟩ := hin.owns.at hO
  rw [ho] at q3
  obtain ⟨rfl, rfl, rfl⟩ : some ad = ad' ∧ l = xs.length ∧ cap = cap' := by simpa using q3
  obtain ⟨p1, p2, p3⟩ := q6 ad rfl
  exact ⟨q1, q2, rfl, q4, p1, p2, p3⟩

theorem flat_at {z : Nat} : ∀ {xs : List (List AV)} {r c : Nat} {row : List AV}, Wide z xs → xs[r]? = some row → c ≤ z → (xs.flatten.drop (r * z + c)) = row.drop c ++ (xs.drop (r + 1)).flatten
  | [], r, c, row, _, h, _ => by simp at h
  | x :: xs, 0, c, row, hw, h, hc => by
    obtain rfl : x = row := by simpa using h
    have h1 : x.length = z := hw x (by simp)
    simp only [List.flatten_cons, Nat.zero_mul, Nat.zero_add, List.drop_succ_cons, List.drop_zero]
    rw [List.drop_append_of_le_length (by omega)]
  | x :: xs, r + 1, c, row, hw, h, hc => by
    have h1 : x.length = z := hw x (by simp)
    have ih := flat_at (xs := xs) (r := r) (c := c) (row := row) (fun q hq => hw q (by simp [hq])) (by simpa using h) hc
    have e : (r + 1) * z + c = x.length + (r * z + c) := by rw [h1, Nat.add_mul, Nat.one_mul]; omega
    simp only [List.flatten_cons, List.drop_succ_cons]
    rw [e, List.drop_length_add_append, ih]

theorem va_loadE {t : TypeId} {x : Operand} {z k r c : Nat} {xs : List (List AV)} {row : List AV} {y : AV} {i : TI} (ht : ti P t = some i) (hx : ev s.σ x = .eptr k r c) (hO : lkO s.O k = some (.wr z xs)) (hr : xs[r]? = some row)
    (hc : Nat.blt c z = true) (hy : loadE i row c = some y) : ValAt P N n0 s (.load t x) y := by
  rintro ⟨dst, op, type, pos, after, guard⟩ rfl w0 g0 a w g hin
  obtain ⟨_, _, _, h2⟩ := ti_tells ht
  have r1 := rep_ev hin.slots x
  rw [hx] at r1
  obtain ⟨ad, l, cap, ho, hp⟩ := r1
  obtain ⟨hw, hwd, rfl, hcap, hours, _, vs, hrep, hcell⟩ := wr_cells hin hO ho
  simp only [Nat.blt_eq] at hc
  have hrow : row.length = z := hw row (List.mem_of_getElem? hr)
  have hlt : r < xs.length := (List.getElem?_eq_some_iff.1 hr).1
  rw [hwd] at hp
  have hfl := flat_at (c := c) hw hr (by omega)
  have hdr := RepL.drop (r * z + c) hrep
  rw [hfl] at hdr
  unfold loadE at hy
  split at hy
  · rename_i hg
    split at hy
    · rename_i hb
      obtain rfl := Option.some.inj hy
      simp only [Nat.ble_eq] at hb
      have htk := RepL.take i.size hdr
      rw [List.take_append_of_le_length (by simp; omega)] at htk
      have hload := run_loadCells_list (P := P) w ⟨ad.block, ad.off + r * z + c, none⟩ ((vs.drop (r * z + c)).take i.size) (fun j v hv => by
        rw [addr_add]
        rw [List.getElem?_take] at hv
        split at hv
        · rw [List.getElem?_drop] at hv
          have := hcell _ v hv
          rwa [show ad.off + (r * z + c + j) = ad.off + r * z + c + j by omega] at this
        · cases hv)
      have hl : ((vs.drop (r * z + c)).take i.size).length = i.size := by rw [htk.length]; simp; omega
      rw [hl] at hload
      refine ⟨.agg ((vs.drop (r * z + c)).take i.size).toArray, run_value ?_, _, rfl, htk⟩
      rw [hp]
      simp [Instr.loadAt, Instr.sureAddr, loadVar, h2.run_agg hg, h2.run_size, hload]
    · cases hy
  · rename_i hg
    have hy0 : (row.drop c)[0]? = some y := by simpa using hy
    obtain ⟨v, hv, rv⟩ := RepL.get hdr (i := 0) (x := y) (by rw [List.getElem?_append_left (by simp; omega)]; exact hy0)
    rw [List.getElem?_drop] at hv
    have := hcell _ v hv
    refine ⟨v, run_value ?_, rv⟩
    rw [hp]
    have hc' : w.cell? ⟨ad.block, ad.off + r * z + c, none⟩ = some v := by rwa [show ad.off + (r * z + c + 0) = ad.off + r * z + c by omega] at this
    simp [Instr.loadAt, Instr.sureAddr, loadVar, h2.run_agg hg, hc']
  · cases hy

/-- Written there. -/
theorem Inv.wrote (hin : Inv N n0 w0 g0 s a w g) {z k r c : Nat} {xs : List (List AV)} {row cs : List AV} {vals : List Value} (hO : lkO s.O k = some (.wr z xs)) {ad : Addr} {l cap : Nat} (ho : g.own k = some (.slice (some ad) l cap))
    (hr : xs[r]? = some row) (hc : c + cs.length ≤ z) (hv : RepL w g cs vals) : (∀ j, j < vals.length → (w.cell? ⟨ad.block, ad.off + r * z + c + j, none⟩).isSome = true ∧ w.frozen? ⟨ad.block, ad.off + r * z + c + j, none⟩ = false) ∧
    Inv N n0 w0 g0 ⟨s.σ, s.H, (k, .wr z (xs.set r (row.take c ++ cs ++ row.drop (c + cs.length)))) :: dropO [k] s.O, s.n⟩ a (w.setCells ad.block (ad.off + r * z + c) vals) g := by
  obtain ⟨hw, hwd, rfl, hcap, ⟨hsp, howner, cc, e, fr, hcc, hcs, hfz⟩, htop, vs, hrep, hcell⟩ := wr_cells hin hO ho
  obtain ⟨b, off, sp⟩ := ad
  simp only at hsp howner hcc hcs htop hcell
  subst hsp
  have hlen := hv.length
  have hrow : row.length = z := hw row (List.mem_of_getElem? hr)
  have hlt : r < xs.length := (List.getElem?_eq_some_iff.1 hr).1
  have hm1 : (r + 1) * z ≤ xs.length * z := Nat.mul_le_mul_right _ hlt
  have hm2 : xs.length * z ≤ cap * z := Nat.mul_le_mul_right _ hcap
  rw [Nat.add_mul, Nat.one_mul] at hm1
  have hvl : vs.length = xs.length * z := by rw [hrep.length, hw.flatten_length]
  let p := off + r * z + c
  let w' := w.setCells b p vals
  have hok : ∀ j, j < vals.length → (w.cell? ⟨b, p + j, none⟩).isSome = true ∧ w.frozen? ⟨b, p + j, none⟩ = false := fun j hj => by
    have hin' : p + j < cc.size := by simp only [p]; omega
    exact ⟨by rw [cell_of_cells hcc]; simp [hin'], frozen_not hcc hfz hin'⟩
  refine ⟨hok, ?_⟩
  obtain ⟨m1, m2, m3, m4⟩ := setCells_meta b vals p w
  obtain ⟨c', hc', hcs'⟩ := setCells_shape b vals p w hcc
  have hst : ∀ c o, o < g.top c → w'.cell? ⟨c, o, none⟩ = w.cell? ⟨c, o, none⟩ := fun c o ho => by
    refine World.cell?_setCells_out b vals p w _ fun e _ => .inl ?_
    simp only at e; subst e; show o < p; simp only [p]; omega
  have hm : Mono w g w' g := ⟨⟨fun _ => Nat.le_refl _, hst⟩, fun _ _ e => e, fun _ _ e => e, fun _ _ _ => rfl⟩
  refine hin.turn (w' := w') (g' := g) (n' := s.n) (O' := [(k, .wr z (xs.set r (row.take c ++ cs ++ row.drop (c + cs.length))))]) [k] m1 m2 m3 (by rw [m4]; exact Nat.le_refl _) hst (fun _ => Nat.le_refl _)
    (fun b' hb' hno => by
      have hbb : b' ≠ b := fun e => by subst e; exact hno k (by simp) howner
      exact ⟨setCells_other b vals p w hbb, rfl, rfl⟩)
    (fun _ _ _ _ h => h) (fun _ _ => ⟨rfl, rfl, rfl⟩)
    (fun i hi => by
      obtain rfl : i = k := by simpa using hi
      exact ⟨_, ho⟩)
    { hin.wf with topNew := fun b hb => hin.wf.topNew b (by rwa [m4] at hb), ownNew := fun b hb => hin.wf.ownNew b (by rwa [m4] at hb), blkOwner := fun id b hb => (by
        obtain ⟨k1, k2, k3, k4⟩ := hin.wf.blkOwner id b hb
        exact ⟨k1, (by rw [m4]; exact k2), k3, k4⟩) } (Nat.le_refl _) (fun i K hx => ?_)
  simp only [lkO] at hx
  split at hx
  · rename_i hi
    have hi' : k = i := by simpa using hi
    subst hi'
    obtain rfl := Option.some.inj hx
    refine ⟨fun q hq => ?_, hwd, some ⟨b, off, none⟩, cap, by rw [ho]; simp, by simpa using hcap, (fun e => by cases e), fun ad eq => ?_⟩
    · rcases List.mem_or_eq_of_mem_set hq with hq | rfl
      · exact hw q hq
      · simp; omega
    · obtain rfl := Option.some.inj eq
      refine ⟨⟨rfl, howner, c', e, fr, hc', by show off + cap * z ≤ c'.size; omega, by rw [hcs']; exact hfz⟩, htop, vs.take (r * z + c) ++ vals ++ vs.drop (r * z + c + vals.length), ?_, fun j v hj => ?_⟩
      · rw [flatten_patch hw hr hc, hlen]
        exact RepL.append (RepL.append (RepL.mono _ _ hm (RepL.take _ hrep)) (RepL.mono _ _ hm hv)) (RepL.mono _ _ hm (RepL.drop _ hrep))
      · rw [list_seg_get _ _ _ _ (by omega)] at hj
        split at hj
        · rename_i hh
          obtain ⟨h1, h2⟩ := hh
          obtain ⟨h3, rfl⟩ := List.getElem?_eq_some_iff.1 hj
          have := World.cell?_setCells_in b vals p w (fun i hi => (hok i hi).1) (j - (r * z + c)) h3
          show w'.cell? ⟨b, off + j, none⟩ = _
          rwa [show p + (j - (r * z + c)) = off + j by simp only [p]; omega] at this
        · rename_i hh
          rw [← hcell j v hj]
          refine World.cell?_setCells_out b vals p w _ fun _ _ => ?_
          show off + j < p ∨ p + vals.length ≤ off + j
          simp only [p]
          by_cases h : r * z + c ≤ j
          · right; have := fun h2 => hh ⟨h, h2⟩; omega
          · left; omega
  · cases hx

/-- A store into an element. -/
theorem rse {t : TypeId} {x y : Operand} {z k r c : Nat} {xs : List (List AV)} {row cs : List AV} {i : TI} (ht : ti P t = some i) (hx : ev σ x = .eptr k r c) (hO : lkO O k = some (.wr z xs)) (hr : xs[r]? = some row)
    (hcs : nfOL (cellsv (ev σ y)) = some cs) (hsz : Nat.beq cs.length i.size = true) (h1 : cs.all AV.one = true) (hc : Nat.ble (c + cs.length) z = true) (hO2 : nfOO (dropO [k] O) some = some O2)
    (kk : aops P N n0 ops rest Q ⟨σ, H, (k, .wr z (xs.set r (row.take c ++ cs ++ row.drop (c + cs.length)))) :: O2, n⟩) :
    aops P N n0 ops (⟨none, .store t x y, ty, pos, af, none⟩ :: rest) Q ⟨σ, H, O, n⟩ := by
  rw [nfOL_eq] at hcs
  rw [nfOO_eq] at hO2
  obtain rfl := Option.some.inj hO2
  refine aops_skip rfl rfl (fun w0 g0 a w g hi => ?_) kk
  obtain ⟨inf, _, zz, h2⟩ := ti_tells ht
  have r1 := rep_ev hi.slots x
  rw [show ev (St.mk σ H O n).σ x = _ from hx] at r1
  obtain ⟨ad, l, cap, ho, hp⟩ := r1
  have hz := cellsv_sound hcs (rep_ev hi.slots y) hi.wf.ownSl
  simp only [Nat.ble_eq, Nat.beq_eq] at hc hsz
  obtain ⟨hok, hi'⟩ := hi.wrote hO ho hr hc hz
  have hwd : g.wd k = z := (hi.owns.at hO).2.1
  rw [hwd] at hp
  refine ⟨_, g, ?_, hi'⟩
  have hst := run_storeCells_cells (P := P) ad.block (ad.off + r * z + c) (a.eval y).cells.toList 0 w (fun j hj => by simpa using (hok j hj).1) (fun j hj => by simpa using (hok j hj).2) (RepL.ones hi.wf.ownSl hz h1)
  have hlen : (a.eval y).cells.size = i.size := by
    have := hz.length
    simpa [hsz] using this
  simp only [Nat.add_zero] at hst
  simp [execOp, Instr.storeAt, hp, Instr.sureAddr, storeVar, hlen, h2.run_size, hst]

end
end Go.Pv
