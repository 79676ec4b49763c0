/- From what the rows say of a law's arguments (data that can be read) to the logic's own words, and back to the rows. -/
import Derived.Test.YtngeejjllgnpcaaPvK
import Derived.ProofKit
namespace Go.Pv
open Go.RowKit (Below)
open Go.ChangeShapes Go.WideShapes
set_option linter.unusedSimpArgs false
set_option linter.unusedSectionVars false
set_option linter.unusedVariables false

/-- Each cell that is there is stable. -/
def fullTop (w : World) : Nat → Nat := fun b => match w.heap[b]? with
  | some (.cells c _ _) => c.size
  | _ => 0

theorem fullTop_new (w : World) (b : Nat) (h : w.heap.size ≤ b) : fullTop w b = 0 := by
  have : w.heap[b]? = none := by simp [h]
  simp [fullTop, this]

theorem fullTop_cell {w : World} {a : Addr} {v : Value} (h : w.cell? a = some v) : a.off < fullTop w a.block ∧ a.spot = none := by
  unfold World.cell? at h
  unfold fullTop
  split at h
  · rename_i c e fr hc
    split at h
    · cases h
    · rename_i hs
      have h2 := (Array.getElem?_eq_some_iff.1 h).1
      rw [hc]
      exact ⟨h2, by cases hh : a.spot <;> simp_all⟩
  · cases h

def DatF (P : Program) [Tab P] (D : TypeId → List AV → Prop) : List (Nat × TypeId) → List AV → Prop
  | [], cs => cs = []
  | (_, t) :: r, cs => ∃ a b, cs = a ++ b ∧ (∀ j, ti P t = some j → a.length = j.size) ∧ D t a ∧ DatF P D r b

/-- Cells of a type's values: well formed data. -/
def Dat (P : Program) [Tab P] : Nat → TypeId → List AV → Prop
  | 0, _, _ => False
  | f + 1, t, cs => match ti P t with
    | none => False
    | some i => match i.k with
      | .bool => ∃ b, cs = [.bool b]
      | .int k => ∃ n, cs = [.int k n] ∧ (Lit.int k n).wf = true
      | .str => ∃ s, cs = [.str s] ∧ s.size ≤ maxLen
      | .slice e => ∃ xs, cs = [.sl xs] ∧ xs.length ≤ maxLen ∧ ∀ r ∈ xs, (∀ j, ti P e = some j → r.length = j.size) ∧ Dat P f e r
      | .struct _ fs => DatF P (Dat P f) fs cs
      | _ => False

def contig (P : Program) [Tab P] : Nat → List (Nat × TypeId) → Nat → Bool
  | off, [], n => Nat.beq off n
  | off, (o, t) :: r, n => Nat.beq o off && (match ti P t with | some j => contig P (off + j.size) r n | none => false)

/-- The kinds that are read. -/
def supS (P : Program) [Tab P] (S : List TypeId) : Bool :=
  S.all fun t => match ti P t with
    | none => false
    | some i => match i.k with
      | .bool | .int _ | .str => true
      | .slice e => S.contains e && (match ti P e with | some j => !Nat.beq j.size 0 | none => false)
      | .struct _ fs => contig P 0 fs i.size && fs.all fun p => S.contains p.2
      | _ => false

section
variable {H : Type} {enc : TypeId × Value → H} {P : Program} [Tab P] {w : World} {base : Nat} {spare : Nat → Bool} {held : Bool}

theorem cellsOf_eq {t : TypeId} {i : TI} {inf : TypeInfo} {d : TypeDesc} {z : Value} (h : Tells P t i inf d z) : P.cellsOf t = i.size := by
  simp [Program.cellsOf, h.info, h.size]

theorem cells_get {a : Addr} {n : Nat} {vs : List Value} (h : w.cells? base a n = some vs) : vs.length = n ∧ ∀ j v, vs[j]? = some v → w.cell? (a.add j) = some v := by
  unfold World.cells? at h
  split at h
  · have hm := h
    have key : ∀ (l : List Nat) (vs : List Value), (l.mapM fun i => w.cell? (a.add i)) = some vs → vs.length = l.length ∧ ∀ (j : Nat) (v : Value) (k : Nat), vs[j]? = some v → l[j]? = some k → w.cell? (a.add k) = some v := by
      intro l
      induction l with
      | nil => intro vs h; simp at h; subst h; simp
      | cons x l ih =>
        intro vs h
        simp only [List.mapM_cons] at h
        cases hx : w.cell? (a.add x) with
        | none => simp [hx] at h
        | some u =>
          cases hr : l.mapM fun i => w.cell? (a.add i) with
          | none => simp [hx, hr] at h
          | some us =>
            simp [hx, hr] at h
            subst h
            obtain ⟨h1, h2⟩ := ih us hr
            refine ⟨by simp [h1], fun j v k hj hk => ?_⟩
            cases j with
            | zero => simp at hj hk; subst hj; subst hk; exact hx
            | succ j => exact h2 j v k (by simpa using hj) (by simpa using hk)
    obtain ⟨h1, h2⟩ := key _ _ hm
    refine ⟨by simpa using h1, fun j v hj => h2 j v j hj ?_⟩
    have : j < n := by
      have := (List.getElem?_eq_some_iff.1 hj).1
      rw [h1] at this; simpa using this
    simp [this]
  · cases h

theorem repAt_of {top : Nat → Nat} {b : Nat} : ∀ {cs : List AV} {vs : List Value} {o : Nat}, RepL w (G.ofTop top) cs vs → (∀ j v, vs[j]? = some v → w.cell? ⟨b, o + j, none⟩ = some v ∧ o + j < top b) →
    RepAt w top b o cs
  | [], _, _, _, _ => trivial
  | x :: cs, _, o, ⟨v, vs', e, r, rest⟩, h => by
    subst e
    have h0 := h 0 v (by simp)
    refine ⟨⟨h0.2, v, h0.1, r⟩, repAt_of rest fun j u hu => ?_⟩
    have := h (j + 1) u (by simpa using hu)
    rwa [show o + (j + 1) = o + 1 + j by omega] at this

theorem RepL.one {top : Nat → Nat} {x : AV} {v : Value} (h : Rep w (G.ofTop top) x v) : RepL w (G.ofTop top) [x] [v] := ⟨v, [], rfl, h, rfl⟩

theorem read_fields {S : List TypeId} {n : Nat} {vs : List Value}
    (ih : ∀ t us x, t ∈ S → DataW.trod enc P w base spare held n t us = some x → ∃ cs, RepL w (G.ofTop (fullTop w)) cs us ∧ Dat P n t cs) :
    ∀ (fs : List (Nat × TypeId)) (off : Nat), contig P off fs vs.length = true → (∀ p ∈ fs, p.2 ∈ S) →
      (∀ p ∈ fs, ∃ x, DataW.trod enc P w base spare held n p.2 ((vs.drop p.1).take (P.cellsOf p.2)) = some x) →
      ∃ cs, RepL w (G.ofTop (fullTop w)) cs (vs.drop off) ∧ DatF P (Dat P n) fs cs
  | [], off, hc, _, _ => by
    simp only [contig, Nat.beq_eq] at hc
    subst hc
    exact ⟨[], by simp [RepL], rfl⟩
  | (o, t) :: r, off, hc, hS, hx => by
    simp only [contig, Bool.and_eq_true, Nat.beq_eq] at hc
    obtain ⟨rfl, hc⟩ := hc
    cases hj : ti P t with
    | none => simp [hj] at hc
    | some j =>
      simp only [hj] at hc
      obtain ⟨_, _, _, ht⟩ := ti_tells hj
      obtain ⟨x, hx0⟩ := hx (o, t) (by simp)
      obtain ⟨a, ha, hda⟩ := ih t _ x (hS (o, t) (by simp)) hx0
      obtain ⟨b, hb, hdb⟩ := read_fields ih r (o + j.size) hc (fun p hp => hS p (by simp [hp])) (fun p hp => hx p (by simp [hp]))
      have hcell : P.cellsOf t = j.size := cellsOf_eq ht
      simp only [hcell] at ha
      refine ⟨a ++ b, ?_, a, b, rfl, fun j' hj' => ?_, hda, hdb⟩
      · have : vs.drop o = (vs.drop o).take j.size ++ vs.drop (o + j.size) := by
          rw [← List.drop_drop]; exact (List.take_append_drop _ _).symm
        rw [this]
        exact RepL.append ha hb
      · rw [hj] at hj'
        obtain rfl := Option.some.inj hj'
        have h1 := ha.length
        have h2 : o + j.size ≤ vs.length := by
          have : ∀ (fs : List (Nat × TypeId)) (k : Nat), contig P k fs vs.length = true → k ≤ vs.length := by
            intro fs
            induction fs with
            | nil => intro k h; simp only [contig, Nat.beq_eq] at h; omega
            | cons q fs ihf =>
              intro k h
              obtain ⟨o', t'⟩ := q
              simp only [contig, Bool.and_eq_true, Nat.beq_eq] at h
              cases hq : ti P t' with
              | none => simp [hq] at h
              | some jj =>
                simp only [hq] at h
                have := ihf _ h.2
                omega
          exact this r _ hc
        rw [← h1]
        simp
        omega

theorem read_dat {S : List TypeId} (hS : supS P S = true) : ∀ (n : Nat) (t : TypeId) (vs : List Value) (x : DataW H × List MemPlace), t ∈ S → DataW.trod enc P w base spare held n t vs = some x →
    ∃ cs, RepL w (G.ofTop (fullTop w)) cs vs ∧ Dat P n t cs
  | 0, _, _, _, _, h => by simp [DataW.trod] at h
  | n + 1, t, vs, x, ht, h => by
    have hS' := hS
    unfold supS at hS'
    rw [List.all_eq_true] at hS'
    have hk := hS' t ht
    cases hi : ti P t with
    | none => simp [hi] at hk
    | some i =>
      simp only [hi] at hk
      obtain ⟨inf, d, z, hT⟩ := ti_tells hi
      cases hkk : i.k <;> simp only [hkk] at hk <;> first | (cases hk; done) | skip
      case bool =>
        obtain ⟨b, rfl, _⟩ := DataW.trod_bool (by rw [hT.und, hT.desc_bool hkk]) h
        exact ⟨[.bool b], RepL.one rfl, by simp only [Dat, hi, hkk]; exact ⟨b, rfl⟩⟩
      case int k =>
        obtain ⟨m, rfl, _, hw⟩ := DataW.trod_int (by rw [hT.und, hT.desc_int hkk]) h
        exact ⟨[.int k m], RepL.one rfl, by simp only [Dat, hi, hkk]; exact ⟨m, rfl, hw⟩⟩
      case str =>
        obtain ⟨s, rfl, _, hw⟩ := DataW.trod_string (by rw [hT.und, hT.desc_str hkk]) h
        exact ⟨[.str s], RepL.one rfl, by simp only [Dat, hi, hkk]; exact ⟨s, rfl, hw⟩⟩
      case struct q fs =>
        simp only [Bool.and_eq_true, List.all_eq_true] at hk
        obtain ⟨fl, hd, hfs, _⟩ := hT.desc_struct hkk
        obtain ⟨xs, m, hm, _, hlen, hxl, hget⟩ := DataW.trod_struct (by rw [hT.und, hd]) h
        obtain rfl : m = n := by omega
        rw [cellsOf_eq hT] at hlen
        obtain ⟨cs, h1, h2⟩ := read_fields (vs := vs) (S := S) (fun t us x ht h => read_dat hS m t us x ht h) fs 0 (by rw [hlen]; exact hk.1)
          (fun p hp => by have := hk.2 p hp; rw [List.contains_eq_mem] at this; simpa using this)
          (fun p hp => by
            rw [hfs] at hp
            obtain ⟨f, hf, rfl⟩ := List.mem_map.1 hp
            obtain ⟨k, hk'⟩ := List.mem_iff_getElem?.1 hf
            have hg := hget k f (by simpa using hk')
            have hlt : k < xs.length := by
              rw [hxl]
              have := (List.getElem?_eq_some_iff.1 hk').1
              simpa using this
            rw [List.getElem?_eq_getElem hlt] at hg
            exact ⟨_, hg⟩)
        exact ⟨cs, by simpa using h1, by simp only [Dat, hi, hkk]; exact h2⟩
      case slice e =>
        simp only [Bool.and_eq_true] at hk
        have hes : e ∈ S := by have := hk.1; rw [List.contains_eq_mem] at this; simpa using this
        cases hj : ti P e with
        | none => simp [hj] at hk
        | some j =>
          simp only [hj, Bool.not_eq_true'] at hk
          obtain ⟨_, _, _, hE⟩ := ti_tells hj
          have hsz : P.cellsOf e = j.size := cellsOf_eq hE
          have hpos : 0 < j.size := by
            have h2 := hk.2
            rw [Bool.eq_false_iff, ne_eq, Nat.beq_eq] at h2
            omega
          rcases DataW.trod_slice (by rw [hT.und, hT.desc_slice hkk]) h with ⟨rfl, _⟩ | ⟨a, len, cap, elems, rest, m, hm, rfl, _, _, hlc, hcm, hel, hget, _⟩
          · exact ⟨[.sl []], RepL.one ⟨none, 0, rfl, Nat.le_refl _, fun _ => rfl, fun _ h => by cases h⟩, by simp only [Dat, hi, hkk]; exact ⟨[], rfl, Nat.zero_le _, by simp⟩⟩
          · obtain rfl : m = n := by omega
            have hrow : ∀ k, k < len → ∃ cs vs, RepL w (G.ofTop (fullTop w)) cs vs ∧ Dat P m e cs ∧ cs.length = j.size ∧ vs.length = j.size ∧ ∀ q v, vs[q]? = some v → w.cell? ((a.add (k * j.size)).add q) = some v := by
              intro k hk'
              have hg := hget k hk'
              have hlt : k < elems.length := by omega
              rw [List.getElem?_eq_getElem hlt, hsz] at hg
              cases hc : w.cells? base (a.add (k * j.size)) j.size with
              | none => rw [hc] at hg; simp at hg
              | some us =>
                rw [hc] at hg
                simp only [Option.bind_some] at hg
                obtain ⟨cs, h1, h2⟩ := read_dat hS m e us _ hes hg
                obtain ⟨h3, h4⟩ := cells_get hc
                exact ⟨cs, us, h1, h2, by rw [← h1.length, h3], h3, h4⟩
            have hspot : 0 < len → a.spot = none := by
              intro h0
              obtain ⟨cs, us, h1, _, _, h4, h5⟩ := hrow 0 h0
              have := h5 0 us[0] (List.getElem?_eq_getElem (by omega))
              simp only [Nat.zero_mul] at this
              have h6 := (fullTop_cell this).2
              simpa [Addr.add] using h6
            have hrows : ∀ k, k ≤ len → ∃ xs : List (List AV), xs.length = len - k ∧ (∀ r ∈ xs, r.length = j.size ∧ Dat P m e r) ∧ (0 < len → RepRows w (fullTop w) a.block (a.off + k * j.size) xs) := by
              intro k hk'
              induction hd : len - k generalizing k with
              | zero => exact ⟨[], rfl, by simp, fun _ => trivial⟩
              | succ dd ihd =>
                obtain ⟨xs, h1, h2, h3⟩ := ihd (k + 1) (by omega) (by omega)
                obtain ⟨cs, us, g1, g2, g3, g4, g5⟩ := hrow k (by omega)
                refine ⟨cs :: xs, by simp [h1], ?_, fun h0 => ⟨?_, ?_⟩⟩
                · intro r hr
                  rcases List.mem_cons.1 hr with rfl | hr
                  · exact ⟨g3, g2⟩
                  · exact h2 r hr
                · refine repAt_of g1 fun q v hq => ?_
                  have := g5 q v hq
                  have hs := hspot h0
                  obtain ⟨ab, ao, sp⟩ := a
                  simp only at hs
                  subst hs
                  rw [addr_add, addr_add] at this
                  exact ⟨this, (fullTop_cell this).1⟩
                · have := h3 h0
                  rw [g3]
                  rwa [Nat.add_mul, Nat.one_mul, ← Nat.add_assoc] at this
            obtain ⟨xs, h1, h2, h3⟩ := hrows 0 (Nat.zero_le _)
            simp only [Nat.sub_zero, Nat.zero_mul, Nat.add_zero] at h1 h3
            refine ⟨[.sl xs], RepL.one ⟨some a, cap, by rw [h1], by rw [h1]; exact hlc, (fun e => by cases e), fun ad had => ?_⟩, ?_⟩
            · obtain rfl := Option.some.inj had
              refine ⟨fun hne => hspot ?_, ?_⟩
              · rw [← h1]; exact List.length_pos_iff.2 hne
              · by_cases h0 : 0 < len
                · exact h3 h0
                · have : xs = [] := List.eq_nil_of_length_eq_zero (by omega)
                  subst this; trivial
            · simp only [Dat, hi, hkk]
              exact ⟨xs, rfl, by omega, fun r hr => ⟨fun j' hj' => by rw [hj] at hj'; obtain rfl := Option.some.inj hj'; exact (h2 r hr).1, (h2 r hr).2⟩⟩

/-- One argument, as the logic tells it. -/
def DatV (P : Program) [Tab P] (t : TypeId) (x : AV) : Prop :=
  ∃ n, match ti P t with
    | some i => (match i.k with
      | .struct _ _ => ∃ cs, x = .agg cs ∧ Dat P n t cs
      | _ => Dat P n t [x])
    | none => False

def DatVs (P : Program) [Tab P] : List TypeId → List AV → Prop
  | [], [] => True
  | t :: ts, x :: xs => DatV P t x ∧ DatVs P ts xs
  | _, _ => False

theorem read_arg {S : List TypeId} {base' : Nat} (hS : supS P S = true) {t : TypeId} {v : Value} {d : DataW H} {ps : List MemPlace} (ht : t ∈ S) (h : DataW.Trod enc P w base spare held t v d ps) (hv : Value.okWide P w .any base' t v) :
    ∃ x, Rep w (G.ofTop (fullTop w)) x v ∧ DatV P t x := by
  obtain ⟨n, hn⟩ := h
  obtain ⟨cs, hr, hd⟩ := read_dat hS n t _ _ ht hn
  have hS' := hS
  unfold supS at hS'
  rw [List.all_eq_true] at hS'
  have hk := hS' t ht
  cases hi : ti P t with
  | none => simp [hi] at hk
  | some i =>
    simp only [hi] at hk
    obtain ⟨inf, dd, z, hT⟩ := ti_tells hi
    have one : ∀ {x : AV}, cs = [x] → v.cells = #[v] → Rep w (G.ofTop (fullTop w)) x v := by
      intro x hx hv
      subst hx
      rw [hv] at hr
      obtain ⟨u, us, e, r, _⟩ := hr
      simp at e
      rw [e.1]; exact r
    cases hkk : i.k <;> simp only [hkk] at hk <;> first | (cases hk; done) | skip
    case bool =>
      obtain ⟨b, rfl⟩ := okWide_bool (by rw [hT.und, hT.desc_bool hkk]) hv
      cases n with
      | zero => exact hd.elim
      | succ n =>
        have hd' := hd
        simp only [Dat, hi, hkk] at hd'
        obtain ⟨c, rfl⟩ := hd'
        exact ⟨_, one rfl rfl, n + 1, by simp only [hi, hkk]; exact hd⟩
    case int k =>
      obtain ⟨b, rfl⟩ := okWide_int (by rw [hT.und, hT.desc_int hkk]) hv
      cases n with
      | zero => exact hd.elim
      | succ n =>
        have hd' := hd
        simp only [Dat, hi, hkk] at hd'
        obtain ⟨c, rfl, _⟩ := hd'
        exact ⟨_, one rfl rfl, n + 1, by simp only [hi, hkk]; exact hd⟩
    case str =>
      obtain ⟨b, rfl⟩ := okWide_string (by rw [hT.und, hT.desc_str hkk]) hv
      cases n with
      | zero => exact hd.elim
      | succ n =>
        have hd' := hd
        simp only [Dat, hi, hkk] at hd'
        obtain ⟨c, rfl, _⟩ := hd'
        exact ⟨_, one rfl rfl, n + 1, by simp only [hi, hkk]; exact hd⟩
    case slice e =>
      obtain ⟨a, l, c, rfl⟩ := okWide_slice (by rw [hT.und, hT.desc_slice hkk]) hv
      cases n with
      | zero => exact hd.elim
      | succ n =>
        have hd' := hd
        simp only [Dat, hi, hkk] at hd'
        obtain ⟨c, rfl, _⟩ := hd'
        exact ⟨_, one rfl rfl, n + 1, by simp only [hi, hkk]; exact hd⟩
    case struct q fs =>
      obtain ⟨fl, hds, _, _⟩ := hT.desc_struct hkk
      obtain ⟨us, rfl, _⟩ := okWide_struct (by rw [hT.und, hds]) hv
      exact ⟨.agg cs, ⟨us.toList, by simp, hr⟩, n, by simp only [hi, hkk]; exact ⟨cs, rfl, hd⟩⟩

theorem read_args {S : List TypeId} {base' : Nat} (hS : supS P S = true) : ∀ {ts : List TypeId} {vs : List Value} {ds : List (DataW H)} {ps : List MemPlace}, (∀ t ∈ ts, t ∈ S) → DataW.TrodAll enc P w base spare held ts vs ds ps →
    (∀ (j : Nat) t v, ts[j]? = some t → vs[j]? = some v → Value.okWide P w .any base' t v) → ∃ xs, RepL w (G.ofTop (fullTop w)) xs vs ∧ DatVs P ts xs
  | [], [], [], _, _, _, _ => ⟨[], rfl, trivial⟩
  | t :: ts, v :: vs, d :: ds, _, hm, ⟨p, q, h1, h2, _⟩, hv => by
    obtain ⟨x, hx, hdx⟩ := read_arg hS (hm t (by simp)) h1 (hv 0 t v rfl rfl)
    obtain ⟨xs, hxs, hdxs⟩ := read_args hS (fun u hu => hm u (by simp [hu])) h2 (fun j t v h1 h2 => hv (j + 1) t v (by simpa using h1) (by simpa using h2))
    exact ⟨x :: xs, ⟨v, vs, rfl, hx, hxs⟩, hdx, hdxs⟩
  | [], [], _ :: _, _, _, h, _ | [], _ :: _, _, _, _, h, _ | _ :: _, [], _, _, _, h, _ | _ :: _, _ :: _, [], _, _, h, _ => by simp [DataW.TrodAll] at h

theorem trodAll_stays (hl : laidOutB P = true) {W W' : World} {sp : Nat → Bool} : ∀ {ts : List TypeId} {vs : List Value} {ds : List (DataW H)} {ps : List MemPlace}, (∀ t ∈ ts, P.readableRec t = true ∧ t < P.types.size) →
    DataW.TrodAll enc P W 0 (fun _ => true) true ts vs ds ps → (∀ x ∈ ps, W.sameAt W' x) → (∀ x ∈ ps, sp x.block = true) → DataW.TrodAll enc P W' 0 sp true ts vs ds ps
  | [], [], [], _, _, h, _, _ => h
  | t :: ts, v :: vs, d :: ds, _, hr, ⟨p, q, h1, h2, e⟩, hs, hsp => by
    subst e
    exact ⟨p, q, WideElems.Trod_stays hl (hr t (by simp)).1 (hr t (by simp)).2 h1 (fun x hx => hs x (by simp [hx])) (fun x hx => hsp x (by simp [hx])),
      trodAll_stays hl (fun u hu => hr u (by simp [hu])) h2 (fun x hx => hs x (by simp [hx])) (fun x hx => hsp x (by simp [hx])), rfl⟩
  | [], [], _ :: _, _, _, h, _, _ | [], _ :: _, _, _, _, h, _, _ | _ :: _, [], _, _, _, h, _, _ | _ :: _, _ :: _, [], _, _, h, _, _ => by simp [DataW.TrodAll] at h

theorem trodAll_len {W : World} {sp : Nat → Bool} : ∀ {ts : List TypeId} {vs : List Value} {ds : List (DataW H)} {ps : List MemPlace}, DataW.TrodAll enc P W base sp held ts vs ds ps → ds.length = ts.length
  | [], [], [], _, _ => rfl
  | _ :: ts, _ :: vs, _ :: ds, _, ⟨_, _, _, h2, _⟩ => by simp [trodAll_len h2]
  | [], [], _ :: _, _, h | [], _ :: _, _, _, h | _ :: _, [], _, _, h | _ :: _, _ :: _, [], _, h => by simp [DataW.TrodAll] at h

/-- A law: called with whatever data, true; and the row's end. -/
theorem law_calls {k : FuncId} {f : Func} {s : ChangeSpec} {S : List TypeId} {tb : TypeId} {W : World} {base' : Nat} {args : Array Value} {ds gs : List (DataW H)} {before : List MemPlace} (hl : laidOutB P = true)
    (hr : ∀ t ∈ f.params.toList, P.readableRec t = true ∧ t < P.types.size) (hS : supS P S = true) (hp : ∀ t ∈ f.params.toList, t ∈ S) (hres : f.resultTypes = #[tb]) (htb : P.underlying tb = some .bool) (hvars : s.vars = [])
    (hfn : ∀ ds : List (DataW H), ds.length = f.params.toList.length → s.fn H ds = { results := [.lit (.bool true)], args := ds })
    (call : ∀ xs, DatVs P f.params.toList xs → PCall P k xs (· = .bool true))
    (hval : ∀ (j : Nat) t v, f.params[j]? = some t → args[j]? = some v → Value.okWide P W .any base' t v)
    (hW : DataW.Whole enc P f.params.toList s.vars false W args.toList ds gs before) :
    Calls P k args W fun e W' => ∃ v, e = .returned v ∧ s.post enc P f false true false false W args v W' := by
  have hW' := hW
  obtain ⟨p, q, hA, hV, rfl, hfz, hnd⟩ := hW
  rw [hvars] at hV
  obtain ⟨rfl, rfl⟩ := trodVars_none hV
  have hval0 : ∀ (j : Nat) t v, f.params.toList[j]? = some t → args.toList[j]? = some v → Value.okWide P W .any base' t v := fun j t v h1 h2 => hval j t v (by simpa using h1) (by simpa using h2)
  obtain ⟨n, hn⟩ : ∃ ps : List MemPlace, ps = p := ⟨_, rfl⟩
  obtain ⟨xs, hxs, hdx⟩ := read_args hS hp hA hval0
  have hc := (call xs hdx).2 W (fullTop W) args.toList (fun b hb => fullTop_new W b hb) hxs
  rw [Array.toArray_toList] at hc
  refine hc.mono ?_
  rintro e W' ⟨v, r, top', rfl, hreq, hr', hpf⟩
  have hreq' : r = .bool true := hreq
  subst hreq'
  obtain rfl : v = .bool true := hr'
  have hlt : ∀ x ∈ p, x.block < W.heap.size := fun x hx => hW'.lt x (by simp [hx])
  have hstay : ∀ sp : Nat → Bool, (∀ x ∈ p, sp x.block = true) → DataW.TrodAll enc P W' 0 sp true f.params.toList args.toList ds p := fun sp hsp =>
    trodAll_stays hl hr hA (fun x hx => hpf.below.same (hlt x hx)) hsp
  have hfd : s.fn H (ds ++ []) = { results := [.lit (.bool true)], args := ds } := by
    rw [List.append_nil]; exact hfn ds (trodAll_len hA)
  refine ⟨_, rfl, ds, [], p ++ [], [], p, [], hW', ?_, ?_, ?_, ?_, fun h => by cases h⟩
  · rw [hfd, hres]
    exact trodAll_mk1 ⟨1, by simp [DataW.trod, Value.cells, htb]⟩
  · rw [hfd]
    exact hstay _ fun x hx => by simpa using hlt x hx
  · rw [hfd, hvars]
    exact rfl
  · exact hpf.below.frame _

end

end Go.Pv
