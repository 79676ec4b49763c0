/- The rules for rows: added to, written out, sliced, made. -/
import Derived.Test.YtngeejjllgnpcaaPvW
namespace Go.Pv
open Go.RowKit (Below)
set_option linter.unusedSimpArgs false
set_option linter.unusedSectionVars false
set_option linter.unusedVariables false

/-- Rows of one width, of plain cells, that name nothing of the call's own. -/
def Plain (z : Nat) (ys : List (List AV)) : Prop := ∀ r ∈ ys, r.length = z ∧ r.all AV.one = true ∧ limL 0 r = true

def Ones (ys : List (List AV)) : Prop := ∀ r ∈ ys, r.all AV.one = true

theorem Plain.wide {z : Nat} {ys : List (List AV)} (h : Plain z ys) : Wide z ys := fun r hr => (h r hr).1
theorem Plain.ones {z : Nat} {ys : List (List AV)} (h : Plain z ys) : Ones ys := fun r hr => (h r hr).2.1
theorem Plain.lim {z : Nat} : ∀ {ys : List (List AV)}, Plain z ys → limLL 0 ys = true
  | [], _ => rfl
  | y :: ys, h => by
    have h1 := (h y (by simp)).2.2
    have h2 : limLL 0 ys = true := Plain.lim fun r hr => h r (by simp [hr])
    simp only [limLL, h1, h2, Bool.and_self]
theorem Plain.nil {z : Nat} : Plain z [] := fun _ h => by cases h
theorem Plain.append {z : Nat} {xs ys : List (List AV)} (h : Plain z xs) (k : Plain z ys) : Plain z (xs ++ ys) := fun r hr => by
  rcases List.mem_append.1 hr with hr | hr
  · exact h r hr
  · exact k r hr
theorem Plain.map {α : Type} {z : Nat} {f : α → List AV} (h : ∀ a, (f a).length = z ∧ (f a).all AV.one = true ∧ limL 0 (f a) = true) (l : List α) : Plain z (l.map f) := fun r hr => by
  obtain ⟨a, _, rfl⟩ := List.mem_map.1 hr
  exact h a
theorem Plain.drop {z : Nat} {xs : List (List AV)} (h : Plain z xs) (k : Nat) : Plain z (xs.drop k) := fun r hr => h r (List.mem_of_mem_drop hr)
theorem Plain.take {z : Nat} {xs : List (List AV)} (h : Plain z xs) (k : Nat) : Plain z (xs.take k) := fun r hr => h r (List.mem_of_mem_take hr)

theorem Ones.flat {ys : List (List AV)} (h : Ones ys) : ys.flatten.all AV.one = true := by
  rw [List.all_eq_true]
  intro x hx
  obtain ⟨r, hr, hxr⟩ := List.mem_flatten.1 hx
  exact List.all_eq_true.1 (h r hr) x hxr

/-- A text's bytes, as a row. -/
def bytesR (b : ByteArray) : List (List AV) := b.data.toList.map fun c => [.int .u8 c.toNat]

theorem bytesR_plain (b : ByteArray) : Plain 1 (bytesR b) := Plain.map (f := fun c : UInt8 => [AV.int .u8 c.toNat]) (fun _ => ⟨rfl, rfl, rfl⟩) _
theorem bytesR_length (b : ByteArray) : (bytesR b).length = b.size := by
  unfold bytesR; rw [List.length_map, Array.length_toList]; rfl

section
variable {P : Program} {N n0 : Nat} {Q : Post} {s : St} {w0 : World} {g0 : G} {a : Act} {w : World} {g : G} {ops : Array Oper} {o : Oper} {rest : List Oper}

/-- What an append's second argument is. -/
inductive SrcV (P : Program) [Tab P] (s : St) (wr : Bool) (z : Nat) (tx : TypeId) (x : Operand) : List (List AV) → Prop
  | sl {ys : List (List AV)} {i : TI} {e : TypeId} (hi : ti P tx = some i) (hk : i.k = .slice e) (h : evs s x = .sl ys) : SrcV P s wr z tx x ys
  | own {ys : List (List AV)} {i : TI} {e : TypeId} {k : Nat} (hwr : wr = true) (hi : ti P tx = some i) (hk : i.k = .slice e) (h : ev s.σ x = .own k) (hO : lkO s.O k = some (.wr z ys)) : SrcV P s wr z tx x ys
  | own0 {ys : List (List AV)} {i : TI} {e : TypeId} {k : Nat} (hl : limLL 0 ys = true) (hi : ti P tx = some i) (hk : i.k = .slice e) (h : ev s.σ x = .own k) (hO : lkO s.O k = some (.wr z ys)) : SrcV P s wr z tx x ys
  | str {i : TI} {b : ByteArray} (hz : z = 1) (hi : ti P tx = some i) (hk : i.k = .str) (h : evs s x = .str b) : SrcV P s wr z tx x (bytesR b)

theorem RepL.up {cs : List AV} {vs : List Value} (h : RepL w (G.ofTop g.top) cs vs) : RepL w g cs vs :=
  RepL.mono _ _ (g := G.ofTop g.top) ⟨⟨fun _ => Nat.le_refl _, fun _ _ _ => rfl⟩, fun _ _ e => by simp [G.ofTop] at e, fun _ _ e => by simp [G.ofTop] at e, fun _ _ e => by simp [G.ofTop] at e⟩ h

theorem RepL.up' {wr : Bool} {cs : List AV} {vs : List Value} (h : RepL w (G.ofTop g.top) cs vs) : RepL w (if wr then g else G.ofTop g.top) cs vs := by
  cases wr
  · exact h
  · exact RepL.up h

theorem RepL.closed {n : Nat} (hwf : WF g w n) {cs : List AV} {vs : List Value} (hl : limL 0 cs = true) (h : RepL w g cs vs) : RepL w (G.ofTop g.top) cs vs := by
  have := RepL.cut 0 _ _ hl h
  rwa [cut_zero g hwf] at this

theorem byteCells_rep (g : G) : ∀ l : List UInt8, RepL w g (l.map fun c => AV.int .u8 c.toNat) (l.map fun c => Value.int .u8 c.toNat)
  | [] => rfl
  | _ :: l => ⟨_, _, rfl, rfl, byteCells_rep g l⟩

theorem bytesR_flat (b : ByteArray) : (bytesR b).flatten = b.data.toList.map fun c => AV.int .u8 c.toNat := by
  unfold bytesR
  generalize b.data.toList = l
  induction l with
  | nil => rfl
  | cons c l ih => simp only [List.map_cons, List.flatten_cons, ih]; rfl

theorem srcv_sound [Tab P] (hi : Inv N n0 w0 g0 s a w g) {wr : Bool} {z : Nat} {tx : TypeId} {x : Operand} {ys : List (List AV)} (h : SrcV P s wr z tx x ys) (hw : Wide z ys) (h1 : Ones ys) :
    ∃ news, Src P z tx (a.eval x) ys.length news w ∧ RepL w (if wr then g else G.ofTop g.top) ys.flatten news := by
  have hone : ∀ {vs : List Value}, RepL w g ys.flatten vs → ∀ u ∈ vs, u.oneCell' = true := fun hr => RepL.ones hi.wf.ownSl hr h1.flat
  cases h with
  | @sl _ i e ht hk h =>
    obtain ⟨_, _, _, h2⟩ := ti_tells ht
    have hr := rep_evs hi x
    rw [h] at hr
    obtain ⟨ad, cap, hv, hc, hn, had⟩ := hr
    rw [hv]
    have hu : P.underlying tx = some (.slice e) := by rw [h2.und, h2.desc_slice hk]
    cases ad with
    | none =>
      obtain rfl := hn rfl
      exact ⟨[], by simpa using Src.ofNil (P := P) w (size := z) hu cap, by simp [RepL]⟩
    | some ad =>
      obtain ⟨hs, hrows⟩ := had ad rfl
      obtain ⟨vs, hl, hrep, hcell⟩ := RepAt.cells (G.ofTop g.top) (RepRows.flat hrows) rfl
      refine ⟨vs, Src.ofSlice (P := P) w hu ad ys.length cap vs (by rw [hl, hw.flatten_length]) (fun j u hju => ?_) (hone (RepL.up hrep)), RepL.up' hrep⟩
      have hne : ys ≠ [] := fun e => by
        subst e
        have := (List.getElem?_eq_some_iff.1 hju).1
        rw [hl] at this; simp at this
      have hsp := hs hne
      obtain ⟨b, off, sp⟩ := ad
      simp only at hsp; subst hsp
      rw [addr_add]; exact hcell j u hju
  | @own _ i e k hwr ht hk h hO =>
    obtain ⟨_, _, _, h2⟩ := ti_tells ht
    have hr := rep_ev hi.slots x
    rw [h] at hr
    have hu : P.underlying tx = some (.slice e) := by rw [h2.und, h2.desc_slice hk]
    obtain ⟨_, _, ad, cap, q1, q2, q3, q4⟩ := hi.owns.at hO
    have hv : a.eval x = .slice ad ys.length cap := by
      have : g.own k = some (a.eval x) := hr
      rw [q1] at this; exact (Option.some.inj this).symm
    rw [hv]
    cases ad with
    | none =>
      obtain ⟨rfl, _⟩ := q3 rfl
      exact ⟨[], by simpa using Src.ofNil (P := P) w (size := z) hu cap, by simp [RepL]⟩
    | some ad =>
      obtain ⟨ho, _, vs, hrep, hcell⟩ := q4 ad rfl
      subst hwr
      refine ⟨vs, Src.ofSlice (P := P) w hu ad ys.length cap vs (by rw [hrep.length, hw.flatten_length]) (fun j u hju => ?_) (hone hrep), hrep⟩
      obtain ⟨b, off, sp⟩ := ad
      obtain rfl : sp = none := ho.1
      rw [addr_add]; exact hcell j u hju
  | @own0 _ i e k hcl ht hk h hO =>
    obtain ⟨_, _, _, h2⟩ := ti_tells ht
    have hr := rep_ev hi.slots x
    rw [h] at hr
    have hu : P.underlying tx = some (.slice e) := by rw [h2.und, h2.desc_slice hk]
    obtain ⟨_, _, ad, cap, q1, q2, q3, q4⟩ := hi.owns.at hO
    have hv : a.eval x = .slice ad ys.length cap := by
      have : g.own k = some (a.eval x) := hr
      rw [q1] at this; exact (Option.some.inj this).symm
    rw [hv]
    cases ad with
    | none =>
      obtain ⟨rfl, _⟩ := q3 rfl
      exact ⟨[], by simpa using Src.ofNil (P := P) w (size := z) hu cap, by simp [RepL]⟩
    | some ad =>
      obtain ⟨ho, _, vs, hrep, hcell⟩ := q4 ad rfl
      refine ⟨vs, Src.ofSlice (P := P) w hu ad ys.length cap vs (by rw [hrep.length, hw.flatten_length]) (fun j u hju => ?_) (hone hrep), RepL.up' (RepL.closed hi.wf (limLL_flatten hcl) hrep)⟩
      obtain ⟨b, off, sp⟩ := ad
      obtain rfl : sp = none := ho.1
      rw [addr_add]; exact hcell j u hju
  | @str i b hz ht hk h =>
    obtain ⟨_, _, _, h2⟩ := ti_tells ht
    have hr := rep_evs hi x
    rw [h] at hr
    have hv : a.eval x = .string b := hr
    rw [hv]
    subst hz
    have hu : P.underlying tx = some .string := by rw [h2.und, h2.desc_str hk]
    refine ⟨byteCells b, by rw [bytesR_length]; exact Src.ofString (P := P) w hu b, ?_⟩
    rw [bytesR_flat]
    exact byteCells_rep _ _

inductive BaseV (s : St) (wr : Bool) (z : Nat) (x : Operand) : List (List AV) → List Nat → Prop
  | nil (h : ev s.σ x = .nilS) : BaseV s wr z x [] []
  | own {k : Nat} {xs : List (List AV)} (h : ev s.σ x = .own k) (hO : lkO s.O k = some (mkRow wr z xs)) : BaseV s wr z x xs [k]

/-- A row of the call's own, as the machine has it. -/
theorem held_row (hi : Inv N n0 w0 g0 s a w g) {wr : Bool} {z k : Nat} {xs : List (List AV)} (hO : lkO s.O k = some (mkRow wr z xs)) :
    Wide z xs ∧ ∃ ad cap, g.own k = some (.slice ad xs.length cap) ∧ xs.length ≤ cap ∧ (ad = none → xs = [] ∧ cap = 0) ∧
      (∃ olds, RepL w (if wr then g else G.ofTop g.top) xs.flatten olds ∧ ∀ b, ad = some b → ∀ j u, olds[j]? = some u → b.spot = none ∧ w.cell? ⟨b.block, b.off + j, none⟩ = some u) ∧
      ∀ b, ad = some b → cap = xs.length ∨ (Ours k w g b (cap * z) ∧ if wr then g.top b.block ≤ b.off else g.top b.block = b.off + xs.length * z) := by
  have h := hi.owns.at hO
  cases wr with
  | true =>
    obtain ⟨q1, _, ad, cap, q3, q4, q5, q6⟩ := h
    refine ⟨q1, ad, cap, q3, q4, q5, ?_, fun b e => .inr ⟨(q6 b e).1, (q6 b e).2.1⟩⟩
    cases ad with
    | none => obtain ⟨rfl, _⟩ := q5 rfl; exact ⟨[], by simp [RepL], fun b e => by cases e⟩
    | some b =>
      obtain ⟨ho, _, vs, hr, hc⟩ := q6 b rfl
      exact ⟨vs, hr, fun b' e j u hu => by obtain rfl := Option.some.inj e; exact ⟨ho.1, hc j u hu⟩⟩
  | false =>
    obtain ⟨q1, _, ad, cap, q3, q4, q5, q6⟩ := h
    refine ⟨q1, ad, cap, q3, q4, q5, ?_, fun b e => (q6 b e).2.2⟩
    cases ad with
    | none => obtain ⟨rfl, _⟩ := q5 rfl; exact ⟨[], by simp [RepL], fun b e => by cases e⟩
    | some b =>
      obtain ⟨hs, hrows, _⟩ := q6 b rfl
      obtain ⟨vs, hl, hrep, hcell⟩ := RepAt.cells (G.ofTop g.top) (RepRows.flat hrows) rfl
      refine ⟨vs, hrep, fun b' e j u hu => ?_⟩
      obtain rfl := Option.some.inj e
      refine ⟨hs fun e => ?_, hcell j u hu⟩
      subst e
      have := (List.getElem?_eq_some_iff.1 hu).1
      rw [hl] at this; simp at this

theorem basev_held (hi : Inv N n0 w0 g0 s a w g) {wr : Bool} {z : Nat} {x : Operand} {xs : List (List AV)} {D : List Nat} (h : BaseV s wr z x xs D) :
    Wide z xs ∧ (∀ i, i ∈ D → ∃ v, g.own i = some v) ∧ ∃ ad cap, a.eval x = .slice ad xs.length cap ∧ xs.length ≤ cap ∧ (ad = none → xs = [] ∧ cap = 0) ∧
      (∃ olds, RepL w (if wr then g else G.ofTop g.top) xs.flatten olds ∧ ∀ b, ad = some b → ∀ j u, olds[j]? = some u → b.spot = none ∧ w.cell? ⟨b.block, b.off + j, none⟩ = some u) ∧
      ∀ b, ad = some b → cap = xs.length ∨ (∃ k, D = [k] ∧ lkO s.O k = some (mkRow wr z xs) ∧ g.own k = some (.slice ad xs.length cap) ∧ Ours k w g b (cap * z) ∧ if wr then g.top b.block ≤ b.off else g.top b.block = b.off + xs.length * z) := by
  cases h with
  | nil h =>
    have hr := rep_ev hi.slots x
    rw [h] at hr
    exact ⟨(fun _ h => by cases h), (fun _ h => by cases h), none, 0, hr, Nat.le_refl _, (fun _ => ⟨rfl, rfl⟩), ⟨[], by simp [RepL], (fun b e => by cases e)⟩, (fun b e => by cases e)⟩
  | @own k _ h hO =>
    have hr := rep_ev hi.slots x
    rw [h] at hr
    obtain ⟨q1, ad, cap, q2, q3, q4, q5, q6⟩ := held_row hi hO
    refine ⟨q1, fun i hi => ?_, ad, cap, ?_, q3, q4, q5, fun b e => (q6 b e).imp id fun ⟨x, y⟩ => ⟨k, rfl, hO, q2, x, y⟩⟩
    · obtain rfl : i = k := by simpa using hi
      exact ⟨_, q2⟩
    · have : g.own k = some (a.eval x) := hr
      rw [q2] at this; exact (Option.some.inj this).symm

theorem run_append_no {t tx ty e : TypeId} {i : TypeInfo} (ht : P.underlying t = some (.slice e)) (hi : P.info? e = some i) (base : Option Addr) (sLen sCap : Nat) (hle : sLen ≤ sCap) (x : Value) (hs : Src P i.size tx x 0 [] w) :
    (Builtin.append_ #[t, tx] ty #[.slice base sLen sCap, x]).run P w = .ok (.slice base sLen sCap) w := by
  rcases hs.kind with ⟨e', hk⟩ | hk <;> cases base <;> simp [Builtin.append_, run_underlying ht, run_underlying hk, sizeOf, typeInfo, hi, hs.len, hle, hs.cells, storeCells]

/-- A new number for no row. -/
theorem Inv.newNone (h : Inv N n0 w0 g0 s a w g) (wr : Bool) (z : Nat) (D : List Nat) (hD : ∀ i, i ∈ D → ∃ v, g.own i = some v) :
    ∃ g', Inv N n0 w0 g0 ⟨s.σ, s.H, (s.n, mkRow wr z []) :: dropO D s.O, s.n + 1⟩ a w g' ∧ g'.own s.n = some (.slice none 0 0) ∧ Mono w g w g' := by
  obtain ⟨g', k1, k2, k5⟩ := h.newHdr (v := .slice none 0 0) (K := mkRow wr z []) (z := z) D hD rfl (fun g' e1 e2 e3 hm => by
    cases wr with
    | true => exact ⟨(fun _ h => by cases h), e2, none, 0, e1, Nat.le_refl _, (fun _ => ⟨rfl, rfl⟩), (fun b hb' => by cases hb')⟩
    | false => exact ⟨(fun _ h => by cases h), e2, none, 0, e1, Nat.le_refl _, (fun _ => ⟨rfl, rfl⟩), (fun b hb' => by cases hb')⟩)
  exact ⟨g', k1, k2, k5⟩

/-- A row under a new number. -/
theorem Inv.again (h : Inv N n0 w0 g0 s a w g) (wr : Bool) {z k : Nat} {xs : List (List AV)} (hO : lkO s.O k = some (mkRow wr z xs)) :
    ∃ g' v, Inv N n0 w0 g0 ⟨s.σ, s.H, (s.n, mkRow wr z xs) :: dropO [k] s.O, s.n + 1⟩ a w g' ∧ g.own k = some v ∧ g'.own s.n = some v ∧ Mono w g w g' := by
  have hk := h.owns.at hO
  obtain ⟨v, hv⟩ := Kind.own_some hk
  have hD : ∀ i, i ∈ [k] → ∃ v, g.own i = some v := fun i hi => by
    obtain rfl : i = k := by simpa using hi
    exact ⟨v, hv⟩
  cases wr with
  | true =>
    obtain ⟨q1, q2, ad, cap, q3, q4, q5, q6⟩ := hk
    cases ad with
    | none =>
      obtain ⟨rfl, rfl⟩ := q5 rfl
      obtain ⟨g', k1, k2, k5⟩ := h.newNone true z [k] hD
      exact ⟨g', _, k1, q3, k2, k5⟩
    | some b =>
      obtain ⟨g', k1, k2, k5⟩ := h.added true hO q3 (q6 b rfl).1 (q6 b rfl).2.1 (ys := []) (news := []) (fun _ h => by cases h) (by simpa using q4) (by simp [RepL])
      rw [List.append_nil] at k1
      exact ⟨g', _, k1, q3, by simpa using k2, k5⟩
  | false =>
    obtain ⟨q1, q2, ad, cap, q3, q4, q5, q6⟩ := hk
    cases ad with
    | none =>
      obtain ⟨rfl, rfl⟩ := q5 rfl
      obtain ⟨g', k1, k2, k5⟩ := h.newNone false z [k] hD
      exact ⟨g', _, k1, q3, k2, k5⟩
    | some b =>
      obtain ⟨p1, p2, p3⟩ := q6 b rfl
      rcases p3 with p3 | ⟨p3, p4⟩
      · obtain ⟨g', k1, k2, k5⟩ := h.newHdr (v := .slice (some b) xs.length cap) (K := mkRow false z xs) (z := z) [k] hD rfl (fun g' e1 e2 e3 hm =>
          ⟨q1, e2, some b, cap, e1, q4, q5, fun b' e => by
            obtain rfl := Option.some.inj e
            exact ⟨p1, by rw [e3]; exact p2, .inl p3⟩⟩)
        exact ⟨g', _, k1, q3, k2, k5⟩
      · obtain ⟨g', k1, k2, k5⟩ := h.added false hO q3 p3 p4 (ys := []) (news := []) (fun _ h => by cases h) (by simpa using q4) (by simp [RepL])
        rw [List.append_nil] at k1
        exact ⟨g', _, k1, q3, by simpa using k2, k5⟩

theorem Grown.alloc (w : World) (ob : Obj) : Grown w (w.drew.alloc ob) ob := ⟨rfl, rfl, rfl, rfl⟩

theorem append_sound [Tab P] (hi : Inv N n0 w0 g0 s a w g) {wr : Bool} {z : Nat} {t tx ty e : TypeId} {x y : Operand} {xs ys : List (List AV)} {D : List Nat} {i je : TI} (ht : ti P t = some i) (hk : i.k = .slice e)
    (he : ti P e = some je) (hz : Nat.beq je.size z = true) (hzs : Nat.beq je.zero.length z = true) (hz0 : Nat.blt 0 je.bytes = true) (hb : BaseV s wr z x xs D) (hy : SrcV P s wr z tx y ys) (hw : Wide z ys) (h1 : Ones ys)
    (hbytes : (xs.length + ys.length) * je.bytes ≤ 140737488355328) :
    ∃ v w' g', (Builtin.append_ #[t, tx] ty #[a.eval x, a.eval y]).run P w = .ok v w' ∧ Inv N n0 w0 g0 ⟨s.σ, s.H, (s.n, mkRow wr z (xs ++ ys)) :: dropO D s.O, s.n + 1⟩ a w' g' ∧ g'.own s.n = some v := by
  obtain ⟨_, _, _, h2⟩ := ti_tells ht
  obtain ⟨inf, _, zv, h3⟩ := ti_tells he
  have hu : P.underlying t = some (.slice e) := by rw [h2.und, h2.desc_slice hk]
  simp only [Nat.beq_eq] at hz hzs
  have hz0' : 0 < je.bytes := by simpa using hz0
  have hlen : xs.length + ys.length ≤ 140737488355328 := Nat.le_trans (Nat.le_mul_of_pos_right _ hz0') hbytes
  subst hz
  obtain ⟨news, hsrc, hrn⟩ := srcv_sound hi hy hw h1
  obtain ⟨hwx, hD, ad, cap, hv, hcap, hnone, ⟨olds, hro, hcell⟩, hours⟩ := basev_held hi hb
  rw [hv]
  have hsize : inf.size = je.size := h3.size.symm
  have hnl := hsrc.newsLen
  have hol : olds.length = xs.length * je.size := by rw [hro.length, hwx.flatten_length]
  have hzc : zv.cells.size = je.size := by
    have := h3.zeros
    rw [this] at hzs
    simpa using hzs
  have hwall : Wide je.size (xs ++ ys) := fun r hr => by
    rcases List.mem_append.1 hr with hr | hr
    · exact hwx r hr
    · exact hw r hr
  by_cases hfit : xs.length + ys.length ≤ cap
  · by_cases hy0 : ys = []
    · subst hy0
      have hn0 : news = [] := List.eq_nil_of_length_eq_zero (by simpa using hnl)
      subst hn0
      have hrun := run_append_no (P := P) (w := w) (t := t) (tx := tx) (ty := ty) hu h3.info ad xs.length cap hcap (a.eval y) (by rw [hsize]; simpa using hsrc)
      rw [List.append_nil]
      cases hb with
      | nil h =>
        have hr := rep_ev hi.slots x
        rw [h] at hr
        have e1 : a.eval x = .slice none 0 0 := hr
        rw [hv] at e1
        obtain ⟨g', k1, k2, _⟩ := hi.newNone wr je.size [] (fun _ h => by cases h)
        exact ⟨_, w, g', hrun, k1, by rw [k2, ← e1]⟩
      | @own k _ h hO =>
        have hr := rep_ev hi.slots x
        rw [h] at hr
        have e1 : g.own k = some (a.eval x) := hr
        obtain ⟨g', v, k1, k2, k3, _⟩ := hi.again wr hO
        rw [k2] at e1
        refine ⟨_, w, g', hrun, k1, ?_⟩
        rw [k3, e1, hv]
    · have hpos : 0 < ys.length := by cases ys with | nil => exact absurd rfl hy0 | cons _ _ => simp
      cases had : ad with
      | none => obtain ⟨rfl, rfl⟩ := hnone had; exact absurd (by simpa using hfit) hy0
      | some b =>
        subst had
        rcases hours b rfl with h | ⟨k, rfl, q1, q2, q3, q4⟩
        · omega
        · obtain ⟨g', k1, k2, _⟩ := hi.added wr q1 q2 q3 q4 (ys := ys) (news := news) hw hfit hrn
          obtain ⟨bb, off, sp⟩ := b
          obtain ⟨rfl, _, c, e', fr, hc, hcs, hfz⟩ := q3
          simp only at hc hcs hfz
          have hm : (xs.length + ys.length) * je.size ≤ cap * je.size := Nat.mul_le_mul_right _ hfit
          rw [Nat.add_mul] at hm
          have hrun := run_append_room_src (P := P) w t tx ty e inf hu h3.info bb off xs.length cap (a.eval y) ys.length news (by rw [hsize]; exact hsrc) hfit
            (fun j hj => by
              rw [hsize, cell_of_cells hc]
              have : off + xs.length * je.size + j < c.size := by omega
              simp [this])
            (fun j hj => by rw [hsize]; exact frozen_not hc hfz (by omega))
          rw [hsize] at hrun
          exact ⟨_, _, g', hrun, k1, k2⟩
  · have hnl' : ys.length = ys.length := rfl
    have hold : (Builtin.firstCells inf.size xs.length (.slice ad xs.length cap)).run P w.drew = .ok olds.toArray w.drew := by
      cases had : ad with
      | none =>
        obtain ⟨rfl, rfl⟩ := hnone had
        have : olds = [] := List.eq_nil_of_length_eq_zero (by simpa using hol)
        subst this
        exact run_firstCells_none w.drew _ _ _ _
      | some b =>
        refine run_firstCells_some w.drew inf.size xs.length b xs.length cap olds (by rw [hsize]; exact hol) (fun j u hj => ?_)
        obtain ⟨h1, h2⟩ := hcell b had j u hj
        obtain ⟨bb, off, sp⟩ := b
        simp only at h1 h2; subst h1
        rw [addr_add]; exact h2
    have hrun := run_append_grow_src (P := P) w t tx ty e inf zv hu h3.info h3.zero ad xs.length cap olds hold (a.eval y) ys.length news (by rw [hsize]; exact hsrc) (by omega) (by omega)
      (by rw [← h3.bytes]; exact growslice_fits (by omega) hbytes)
    let C := grownCap w (xs.length + ys.length) cap e
    have hge : xs.length + ys.length ≤ C := grownCap_ge w _ cap e
    have hG := Grown.alloc w (.cells ((olds ++ news).toArray ++ Builtin.zeroCells zv.cells (C - (xs.length + ys.length))) e (0, 0))
    have harr : (olds ++ news).toArray ++ Builtin.zeroCells zv.cells (C - (xs.length + ys.length)) = ((olds ++ news) ++ (Builtin.zeroCells zv.cells (C - (xs.length + ys.length))).toList).toArray := by simp
    rw [harr] at hG hrun
    obtain ⟨g', k1, k2, _⟩ := hi.newRow wr D hD (.inl rfl) hG hwall (by rw [List.length_append]; exact hge)
      (by
        have e1 : (Builtin.zeroCells zv.cells (C - (xs.length + ys.length))).toList.length = (C - (xs.length + ys.length)) * je.size := by
          rw [Array.length_toList, size_zeroCells, hzc]
        rw [e1, List.length_append, hol, hnl, ← Nat.add_mul, ← Nat.add_mul]
        exact Nat.mul_le_mul_right _ (by omega))
      (by rw [List.flatten_append]; exact RepL.append hro hrn)
    exact ⟨_, _, g', hrun, k1, by rw [k2, List.length_append]⟩

end
end Go.Pv
