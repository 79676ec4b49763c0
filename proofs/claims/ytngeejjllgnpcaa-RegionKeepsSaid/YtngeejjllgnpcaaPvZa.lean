/- More rules: no row as a row, is a row nil?, small helps for loops and ends of calls that are handed things. -/
import Derived.Test.YtngeejjllgnpcaaPvZ
namespace Go.Pv
open Go.RowKit (Below)
set_option linter.unusedSimpArgs false
set_option linter.unusedSectionVars false
set_option linter.unusedVariables false

section
variable {P : Program} [Tab P] {N n0 : Nat} {Q : Post} {ops : Array Oper} {rest : List Oper} {σ : List (Nat × AV)} {H A : List (Nat × Nat × AV)} {O : List (Nat × Kind)} {n i : Nat}
  {d : Nat} {op : Op} {ty : TypeId} {pos : String} {af : Array Edge} {gd : Option (Nat × Bool)} {s : St} {c : Code} {w0 : World} {g0 : G} {a : Act} {w : World} {g : G}

/-- The state as one that says something else of the same. -/
theorem awp_conv {s' : St} (h : ∀ w0 g0 a w g, Inv N n0 w0 g0 s a w g → ∃ g', Inv N n0 w0 g0 s' a w g') (k : awp P N n0 c Q s') : awp P N n0 c Q s := fun w0 g0 a w g hi => by
  obtain ⟨g', hi'⟩ := h w0 g0 a w g hi
  exact k w0 g0 a w g' hi'

theorem aops_conv {l : List Oper} {s' : St} (h : ∀ w0 g0 a w g, Inv N n0 w0 g0 s a w g → ∃ g', Inv N n0 w0 g0 s' a w g') (k : aops P N n0 ops l Q s') : aops P N n0 ops l Q s := fun w0 g0 a w g hi => by
  obtain ⟨g', hi'⟩ := h w0 g0 a w g hi
  exact k w0 g0 a w g' hi'

/-- No row (in a slot) as a row of the call's own. -/
theorem nilS_slot (wr : Bool) (z t : Nat) (ht : lk σ t = .nilS) (hi : Inv N n0 w0 g0 ⟨σ, H, O, n⟩ a w g) : ∃ g', Inv N n0 w0 g0 ⟨(t, .own n) :: σ, H, (n, mkRow wr z []) :: O, n + 1⟩ a w g' := by
  obtain ⟨g', k1, k2, _⟩ := hi.newNone wr z [] (fun _ h => by cases h)
  have hd : dropO [] O = O := by
    have : ∀ O : List (Nat × Kind), dropO [] O = O := fun O => by
      induction O with
      | nil => rfl
      | cons e O ih => simp [dropO, idx, ih]
    exact this O
  refine ⟨g', ?_⟩
  have hr := hi.slots t
  rw [show lk (St.mk σ H O n).σ t = .nilS from ht] at hr
  have hv : a.tmps.getD t undef = .slice none 0 0 := hr
  have k1' : Inv N n0 w0 g0 ⟨σ, H, (n, mkRow wr z []) :: O, n + 1⟩ a w g' := by simpa only [hd] using k1
  exact k1'.putS (v := .own n) (by rw [hv]; exact k2)

/-- No row (in a variable) as a row of the call's own. -/
theorem nilS_cell (wr : Bool) (z id off : Nat) (ht : lkH H id off = some .nilS) (hi : Inv N n0 w0 g0 ⟨σ, H, O, n⟩ a w g) : ∃ g', Inv N n0 w0 g0 ⟨σ, (id, off, .own n) :: H, (n, mkRow wr z []) :: O, n + 1⟩ a w g' := by
  obtain ⟨g', k1, k2, _⟩ := hi.newNone wr z [] (fun _ h => by cases h)
  have hd : dropO [] O = O := by
    have : ∀ O : List (Nat × Kind), dropO [] O = O := fun O => by
      induction O with
      | nil => rfl
      | cons e O ih => simp [dropO, idx, ih]
    exact this O
  have k1' : Inv N n0 w0 g0 ⟨σ, H, (n, mkRow wr z []) :: O, n + 1⟩ a w g' := by simpa only [hd] using k1
  refine ⟨g', { k1' with cells := fun i p x hx => ?_ }⟩
  simp only [lkH] at hx
  split at hx
  · rename_i hc
    simp only [Bool.and_eq_true, Nat.beq_eq] at hc
    obtain ⟨rfl, rfl⟩ := hc
    obtain rfl := Option.some.inj hx
    obtain ⟨b, cc, e, hb, hw, v, hv, r⟩ := k1'.cells id off .nilS ht
    have hv' : v = .slice none 0 0 := r
    exact ⟨b, cc, e, hb, hw, v, hv, by rw [hv']; exact k2⟩
  · exact k1'.cells i p x hx

/-- A row that is written no more: it stands still. -/
theorem wr_still (k : Nat) {z : Nat} {xs : List (List AV)} (hO : lkO O k = some (.wr z xs)) (hl : limLL 0 xs = true) (hk : Nat.ble n0 k = true) (hi : Inv N n0 w0 g0 ⟨σ, H, O, n⟩ a w g) :
    ∃ g', Inv N n0 w0 g0 ⟨σ, H, (k, .row z xs) :: O, n⟩ a w g' := by
  obtain ⟨q1, q2, ad, cap, q3, q4, q5, q6⟩ := hi.owns.at hO
  have hwf := hi.wf
  cases ad with
  | none =>
    obtain ⟨rfl, rfl⟩ := q5 rfl
    refine ⟨g, { hi with owns := fun i K hx => ?_ }⟩
    simp only [lkO] at hx
    split at hx
    · rename_i hki
      have : k = i := by simpa using hki
      subst this
      obtain rfl := Option.some.inj hx
      exact ⟨q1, q2, none, 0, q3, Nat.le_refl _, (fun _ => ⟨rfl, rfl⟩), (fun b e => by cases e)⟩
    · exact hi.owns.at hx
  | some ad =>
    obtain ⟨ho, ht, vs, hr, hc⟩ := q6 ad rfl
    obtain ⟨b, off, sp⟩ := ad
    obtain ⟨rfl, howner, c, e, fr, hcells, hcs, hfz⟩ := ho
    simp only at howner hcells hcs hfz ht hc
    let T := off + xs.length * z
    let g' : G := { g with top := fun x => if x = b then T else g.top x }
    have hbs : b < w.heap.size := hwf.ownerLt howner
    have hT : g.top b ≤ T := Nat.le_trans ht (Nat.le_add_right _ _)
    have htops : ∀ x, g.top x ≤ g'.top x := fun x => by
      simp only [g']; split
      · rename_i e; subst e; exact hT
      · exact Nat.le_refl _
    have hm : Mono w g w g' := ⟨⟨htops, fun _ _ _ => rfl⟩, fun _ _ e => e, fun _ _ e => e, fun _ _ _ => rfl⟩
    have hne : ∀ id b', g.blk id = some b' → b' ≠ b := fun id b' hb e => by
      subst e
      have := (hwf.blkOwner id b' hb).1
      rw [howner] at this
      obtain rfl := Option.some.inj this
      rw [hwf.sep _ _ hb] at q3; cases q3
    have hvl : vs.length = xs.length * z := by rw [hr.length, q1.flatten_length]
    refine ⟨g', {
      defers := hi.defers
      size := hi.size
      slots := fun t => (hi.slots t).mono _ _ hm
      cells := fun i p x hx => by
        obtain ⟨b', c', e', hb, hw, v, hv, r⟩ := hi.cells i p x hx
        exact ⟨b', c', e', hb, hw, v, hv, r.mono _ _ hm⟩
      owns := fun i K hx => ?_
      wf := {
        topNew := fun x hx => by
          have : x ≠ b := by omega
          simp only [g', this, if_false]; exact hwf.topNew x hx
        ownNew := hwf.ownNew
        blkOwner := fun id b' hb => by
          obtain ⟨k1, k2, k3, k4⟩ := hwf.blkOwner id b' hb
          exact ⟨k1, k2, by simp only [g', hne id b' hb, if_false]; exact k3, k4⟩
        ownLt := hwf.ownLt
        ownSl := hwf.ownSl
        sep := hwf.sep
        idLt := hwf.idLt }
      frame := { hi.frame with
        foreign := fun x hx hxo => by
          obtain ⟨k1, k2⟩ := hi.frame.foreign x hx hxo
          have : x ≠ b := fun e => by subst e; rw [k1] at howner; cases howner
          exact ⟨k1, by simp only [g', this, if_false]; exact k2⟩
        top := fun x => Nat.le_trans (hi.frame.top x) (htops x) }
      nle := hi.nle }⟩
    simp only [lkO] at hx
    split at hx
    · rename_i hki
      have : k = i := by simpa using hki
      subst this
      obtain rfl := Option.some.inj hx
      refine ⟨q1, q2, some ⟨b, off, none⟩, cap, q3, q4, (fun e => by cases e), fun ad eq => ?_⟩
      obtain rfl := Option.some.inj eq
      have hrc : RepL w (G.ofTop g'.top) xs.flatten vs := RepL.closed (n := n) (g := g') {
        topNew := fun x hx => by
          have : x ≠ b := by omega
          simp only [g', this, if_false]; exact hwf.topNew x hx
        ownNew := hwf.ownNew
        blkOwner := fun id b' hb => by
          obtain ⟨k1, k2, k3, k4⟩ := hwf.blkOwner id b' hb
          exact ⟨k1, k2, by simp only [g', hne id b' hb, if_false]; exact k3, k4⟩
        ownLt := hwf.ownLt
        ownSl := hwf.ownSl
        sep := hwf.sep
        idLt := hwf.idLt } (limLL_flatten hl) (RepL.mono _ _ hm hr)
      refine ⟨fun _ => rfl, RepRows.of_flat (repAt_of hrc fun j u hu => ⟨hc j u hu, ?_⟩), .inr ⟨⟨rfl, howner, c, e, fr, hcells, hcs, hfz⟩, by simp [g', T]⟩⟩
      have hj := (List.getElem?_eq_some_iff.1 hu).1
      simp only [g', if_true, T]; omega
    · rename_i hne'
      have hk' := hi.owns.at hx
      refine Kind.keep hk' ⟨hm, fun x hx' => ⟨rfl, hx', ?_⟩, fun x hx' => hx'⟩
      have : x ≠ b := fun e => by
        subst e
        rw [howner] at hx'
        obtain rfl := Option.some.inj hx'
        simp at hne'
      simp [g', this]

/-- A row that a variable holds, under a new number. -/
theorem row_again (id off k : Nat) {wr : Bool} {z : Nat} {xs : List (List AV)} (hH : lkH H id off = some (.own k)) (hO : lkO O k = some (mkRow wr z xs)) (hi : Inv N n0 w0 g0 ⟨σ, H, O, n⟩ a w g) :
    ∃ g', Inv N n0 w0 g0 ⟨σ, (id, off, .own n) :: H, (n, mkRow wr z xs) :: dropO [k] O, n + 1⟩ a w g' := by
  obtain ⟨g', v, k1, k2, k3, k4⟩ := hi.again wr hO
  refine ⟨g', { k1 with cells := fun i p x hx => ?_ }⟩
  simp only [lkH] at hx
  split at hx
  · rename_i hc
    simp only [Bool.and_eq_true, Nat.beq_eq] at hc
    obtain ⟨rfl, rfl⟩ := hc
    obtain rfl := Option.some.inj hx
    obtain ⟨b, cc, e, hb, hw, u, hu, r⟩ := k1.cells id off (.own k) hH
    obtain ⟨b', cc', e', hb', hw', u', hu', r'⟩ := hi.cells id off (.own k) hH
    have e1 : g.own k = some u' := r'
    refine ⟨b, cc, e, hb, hw, u, hu, ?_⟩
    have e2 : g'.own k = some u := r
    have e3 : g'.own k = some v := k4.own k v k2
    rw [e3] at e2
    rw [← Option.some.inj e2]; exact k3
  · exact k1.cells i p x hx

/-- Is a row nil? Nothing is told, but that what is nil has nothing in it. -/
theorem rnil {t t2 : TypeId} {x : Operand} {xs : List (List AV)} {j : TI} {e : TypeId} (hd : Nat.blt d N = true) (ht : ti P t = some j) (hk : j.k = .slice e) (hx : evs ⟨σ, H, O, n⟩ x = .sl xs)
    (k : ∀ b : Bool, (b = true → xs = []) → aops P N n0 ops rest Q ⟨(d, .bool b) :: σ, H, O, n⟩) :
    aops P N n0 ops (⟨some d, .binOp .eql t x (.const (.slice none 0 0)) t2, ty, pos, af, none⟩ :: rest) Q ⟨σ, H, O, n⟩ := by
  intro w0 g0 a w g hi
  obtain ⟨_, _, _, h1⟩ := ti_tells ht
  have hdd := h1.desc_slice hk
  have r := rep_evs hi x
  rw [hx] at r
  obtain ⟨ad, cap, e1, hc, hn, had⟩ := r
  have hrun : (execOp a.eval ⟨some d, .binOp .eql t x (.const (.slice none 0 0)) t2, ty, pos, af, none⟩).run P w = .ok (.value (.bool ad.isNone)) w := by
    refine run_value ?_
    rw [e1]
    have hu : P.underlying t = some (.slice e) := by rw [h1.und, hdd]
    have he : Act.eval a (.const (.slice none 0 0)) = .slice none 0 0 := rfl
    rw [he]
    have := (run_eql_odd (P := P) (w := w) (t := t) (u := .slice ad xs.length cap) (v := .slice none 0 0) (r := ad.isNone) rfl (by
      simp only [Op.equal, Op.maxDepth]; rw [Op.equalIn]
      cases ad <;> simp only [Sem.run_bind, run_underlying hu, Result.andThen_ok, Sem.run_pure, Option.isNone])).1
    simp only [Sem.run_bind, eqGuard_at_slice, Sem.run_pure, Result.andThen_ok]
    exact this
  exact wpList_value (o := ⟨some d, .binOp .eql t x (.const (.slice none 0 0)) t2, ty, pos, af, none⟩) rfl hrun
    (k ad.isNone (fun hb => hn (by simpa using hb)) w0 g0 _ w g (hi.put (s := ⟨σ, H, O, n⟩) (d := some d) (v := .bool ad.isNone) rfl hd))

theorem freeze_end {w : World} {b : Nat} {c : Array Value} {e : TypeId} {fr : Nat × Nat} (h : w.heap[b]? = some (.cells c e fr)) (hf : fr = (0, 0) ∨ c.size ≤ fr.1) :
    ∃ fr', (w.freeze ⟨b, c.size, none⟩ 1).heap[b]? = some (.cells c e fr') ∧ (fr' = (0, 0) ∨ c.size ≤ fr'.1) ∧ ∀ x, x ≠ b → (w.freeze ⟨b, c.size, none⟩ 1).heap[x]? = w.heap[x]? := by
  have h1 : w.freeze ⟨b, c.size, none⟩ 1 = { w with heap := w.heap.modify b fun
      | .cells c' elem (lo, hi) => .cells c' elem (if lo == hi then (c.size, c.size + 1) else (min lo c.size, max hi (c.size + 1)))
      | o => o } := by
    unfold World.freeze; rw [if_neg (by decide)]; rfl
  rw [h1]
  obtain ⟨lo, hi⟩ := fr
  refine ⟨if lo == hi then (c.size, c.size + 1) else (min lo c.size, max hi (c.size + 1)), ?_, .inr ?_, fun x hx => ?_⟩
  · simp only [Array.getElem?_modify, if_true, h, Option.map_some]
  · split
    · exact Nat.le_refl _
    · rename_i hne
      rcases hf with hf | hf
      · simp only [Prod.mk.injEq] at hf; simp [hf.1, hf.2] at hne
      · simp only at hf ⊢; omega
  · simp only [Array.getElem?_modify]
    rw [if_neg (Ne.symm hx)]

/-- A row as a row of its own type. -/
theorem na_same {t e : TypeId} {x : Operand} {z k : Nat} {r : List AV} {xs : List (List AV)} {j je : TI} (ht : ti P t = some j) (hk : j.k = .slice e) (he : ti P e = some je) (hke : je.k = .int .u8)
    (hx : ev s.σ x = .own k) (hO : lkO s.O k = some (.wr z (r :: xs))) : NewAt P N n0 s (.convert t t x) ty (.wr z (r :: xs)) [k] := by
  rintro ⟨dst, op, type, pos, after, guard⟩ rfl rfl w0 g0 a w g hi
  obtain ⟨_, _, _, h1⟩ := ti_tells ht
  obtain ⟨_, _, _, h2⟩ := ti_tells he
  have hu : P.underlying t = some (.slice e) := by rw [h1.und, h1.desc_slice hk]
  have hue : P.underlying e = some (.int .u8) := by rw [h2.und, h2.desc_int hke]
  have hr := rep_ev hi.slots x
  rw [hx] at hr
  obtain ⟨q0, q2, ad, cap, q1, q4, q3, q5⟩ := hi.owns.at hO
  have e1 : g.own k = some (a.eval x) := hr
  rw [q1] at e1
  have e2 := Option.some.inj e1
  cases ad with
  | none => have := (q3 rfl).1; cases this
  | some ad =>
    obtain ⟨⟨hsp, howner, c, e', fr, hc, hcs, hfz⟩, htop, vs, hrv, hcell⟩ := q5 ad rfl
    obtain ⟨b, off, sp⟩ := ad
    simp only at hsp howner hc hcs htop hcell
    subst hsp
    obtain ⟨fr', f1, f2, f3⟩ := freeze_end hc hfz
    let w' := w.freeze ⟨b, c.size, none⟩ 1
    have hrun : (convert t t (.slice (some ⟨b, off, none⟩) (r :: xs).length cap)).run P w = .ok (.slice (some ⟨b, off, none⟩) (r :: xs).length cap) w' := by
      have hs : w.shape? b = some (e', c.size) := by simp [World.shape?, hc]
      simp [convert, run_underlying hu, run_underlying hue, markStringish, hs]
      rfl
    have hcw : ∀ x o, w'.cell? ⟨x, o, none⟩ = w.cell? ⟨x, o, none⟩ := fun x o => by
      by_cases hxb : x = b
      · subst hxb
        rw [cell_of_cells f1, cell_of_cells hc]
      · exact cell_of_heap (f3 x hxb)
    have hm4 : w'.os = w.os ∧ w'.tape = w.tape ∧ w'.output = w.output ∧ w'.heap.size = w.heap.size := by
      show (w.freeze ⟨b, c.size, none⟩ 1).os = _ ∧ _
      unfold World.freeze; rw [if_neg (by decide)]
      exact ⟨rfl, rfl, rfl, Array.size_modify ..⟩
    obtain ⟨g', k1, k2, k3⟩ := hi.moved (k := k) (z := z) (K := .wr z (r :: xs)) (v := .slice (some ⟨b, off, none⟩) (r :: xs).length cap) (b := b) (w' := w') q1 howner rfl hm4.1 hm4.2.1 hm4.2.2.1 hm4.2.2.2 hcw f3
      (fun g' p1 p2 p3 p4 hmm => by
        refine ⟨q0, p2, some ⟨b, off, none⟩, cap, p1, q4, (fun e => by cases e), fun ad eq => ?_⟩
        obtain rfl := Option.some.inj eq
        exact ⟨⟨rfl, p4, c, e', fr', f1, hcs, f2⟩, by rw [p3]; exact htop, vs, RepL.mono _ _ hmm hrv, fun j v hv => by rw [hcw]; exact hcell j v hv⟩)
    exact ⟨_, w', g', run_valueW (by rw [← e2]; exact hrun), k1, k2⟩

end

/-! ### loops and ends -/

theorem orow {O : List (Nat × Kind)} {L : List Nat} {i z : Nat} {xs xs' : List (List AV)} (h : lkO O (rho L 0 i) = some (.row z xs')) (e : xs' = xs) (hb : Nat.blt i L.length = true) :
    (∃ K', lkO O (rho L 0 i) = some K' ∧ KR (rho L 0) L.length (.row z xs) K') ∧ Nat.blt i L.length = true := by
  subst e; exact ⟨⟨_, h, .row⟩, hb⟩

theorem owr {O : List (Nat × Kind)} {L : List Nat} {i z : Nat} {xs xs' : List (List AV)} (h : lkO O (rho L 0 i) = some (.wr z xs')) (e : xs' = xs) (hl : limLL 0 xs = true) (hb : Nat.blt i L.length = true) :
    (∃ K', lkO O (rho L 0 i) = some K' ∧ KR (rho L 0) L.length (.wr z xs) K') ∧ Nat.blt i L.length = true := by
  subst e; exact ⟨⟨_, h, .wr hl⟩, hb⟩

/-- The end of a body that was handed m things: L: where those that are left (numbered 0, 1, ..) stand. -/
theorem rrA {P : Program} [Tab P] {m : Nat} {rs : List ResultVar} {K : AV → List (Nat × Nat × AV) → List (Nat × Kind) → Nat → Prop} {s : St} (L : List Nat) (H : List (Nat × Nat × AV)) (O : List (Nat × Kind)) {r : AV}
    (h : resv P s rs = some (r.ren (rho L 0))) (hl : r.lim L.length = true) (hk : keepsTo m L 0 = true) (hg : good s.n L = true) (hH : SubHR s.H s.O L H) (hO : SubOR s.O L O) (k : K r H O L.length) : retPostA P m rs K .ret s :=
  ⟨r, L, ⟨[], H, O, L.length⟩, .inl h, hl, hk, ⟨hg, rfl, trivial, hH, hO⟩, k⟩

theorem rrA' {P : Program} [Tab P] {m : Nat} {rs : List ResultVar} {K : AV → List (Nat × Nat × AV) → List (Nat × Kind) → Nat → Prop} {s : St} (L : List Nat) (H : List (Nat × Nat × AV)) (O : List (Nat × Kind)) {r : AV}
    (h : resv P s rs = some (r.ren (rho L 0))) (hl : r.lim L.length = true) (hk : keepsTo m L 0 = true) (hg : good s.n L = true) (hH : SubHR s.H s.O L H) (hO : SubOR s.O L O) (k : K r H O L.length) : retPostA P m rs K .normal s :=
  ⟨r, L, ⟨[], H, O, L.length⟩, .inl h, hl, hk, ⟨hg, rfl, trivial, hH, hO⟩, k⟩

end Go.Pv
