/- Calls of functions that are handed variables, rows or other things of the caller's: what they make of them; and states with other numbers. -/
import Derived.Test.YtngeejjllgnpcaaPvS
namespace Go.Pv
set_option linter.unusedSimpArgs false
set_option linter.unusedSectionVars false
set_option linter.unusedVariables false

def Kind.ren (ρ : Nat → Nat) : Kind → Kind
  | .row z xs => .row z xs
  | .wr z xs => .wr z (xs.map (renL ρ))
  | .map ks vs => .map (renL ρ ks) (renL ρ vs)
  | .sem s => .sem s

def Owned (ρ : Nat → Nat) (m : Nat) (gc g : G) : Prop := ∀ j, j < m → ∀ b, g.owner b = some (ρ j) ↔ gc.owner b = some j

theorem renL_append {ρ : Nat → Nat} : ∀ {xs ys : List AV}, renL ρ (xs ++ ys) = renL ρ xs ++ renL ρ ys
  | [], _ => rfl
  | x :: xs, ys => by simp only [List.cons_append, renL, renL_append (xs := xs)]

theorem renL_flatten {ρ : Nat → Nat} : ∀ {xs : List (List AV)}, (xs.map (renL ρ)).flatten = renL ρ xs.flatten
  | [] => rfl
  | x :: xs => by simp only [List.map_cons, List.flatten_cons, renL_append, renL_flatten (xs := xs)]

theorem renL_length {ρ : Nat → Nat} : ∀ {xs : List AV}, (renL ρ xs).length = xs.length
  | [] => rfl
  | x :: xs => by simp only [renL, List.length_cons, renL_length (xs := xs)]

theorem Wide.ren {ρ : Nat → Nat} {z : Nat} {xs : List (List AV)} : Wide z (xs.map (renL ρ)) ↔ Wide z xs := by
  unfold Wide
  constructor
  · intro h r hr
    have := h _ (List.mem_map.2 ⟨r, hr, rfl⟩)
    rwa [renL_length] at this
  · intro h r hr
    obtain ⟨q, hq, rfl⟩ := List.mem_map.1 hr
    rw [renL_length]; exact h q hq

theorem Kind.ren_iff {w : World} {ρ : Nat → Nat} {m : Nat} {gc g : G} (h : Ren ρ m gc g) (ho : Owned ρ m gc g) {j : Nat} (hj : j < m) {K : Kind} (hl : K.lim m = true) :
    (K.ren ρ).holds (ρ j) w g ↔ K.holds j w gc := by
  have hO : ∀ ad n, Ours (ρ j) w g ad n ↔ Ours j w gc ad n := fun ad n => by simp only [Ours, ho j hj]
  cases K with
  | row z xs => simp only [Kind.ren, Kind.holds, h.own j hj, h.wd j hj, h.top, hO]
  | wr z xs =>
    simp only [Kind.ren, Kind.holds, h.own j hj, h.wd j hj, h.top, hO, Wide.ren, List.length_map, renL_flatten]
    have : ∀ vs, RepL w g (renL ρ xs.flatten) vs ↔ RepL w gc xs.flatten vs := fun vs => RepL.ren h _ _ (limLL_flatten hl)
    simp only [this, List.map_eq_nil_iff]
  | map ks vs =>
    simp only [Kind.lim, Bool.and_eq_true] at hl
    have h1 : ∀ us, RepL w g (renL ρ ks) us ↔ RepL w gc ks us := fun us => RepL.ren h _ _ hl.1
    have h2 : ∀ us, RepL w g (renL ρ vs) us ↔ RepL w gc vs us := fun us => RepL.ren h _ _ hl.2
    simp only [Kind.ren, Kind.holds, h.own j hj, h.top, ho j hj, h1, h2]
  | sem s =>
    simp only [Kind.ren, Kind.holds, h.own j hj, h.top, ho j hj]

theorem handed_owned {g : G} {L : List Nat} {n : Nat} (hg : good n L = true) : Owned (rho L n) L.length (handed g L) g := by
  intro j hj b
  have h1 := rho_lt (n := n) hj
  simp only [handed]
  constructor
  · intro e; rw [e]; exact get_idx hg h1
  · intro e
    cases ho : g.owner b with
    | none => simp [ho] at e
    | some i =>
      simp only [ho] at e
      have := idx_get e
      rw [h1] at this
      rw [Option.some.inj this]

/-- rho does not hang on n below the handed ones. -/
theorem rho_any {L : List Nat} {n n' j : Nat} (h : j < L.length) : rho L n j = rho L n' j := by
  have h1 := rho_lt (n := n) h; have h2 := rho_lt (n := n') h
  rw [h1] at h2; exact Option.some.inj h2

/-! ### states with other numbers -/

/-- A thing that names no number, or one whose numbers are told anew. -/
inductive KR (ρ : Nat → Nat) (m : Nat) : Kind → Kind → Prop
  | ren {K : Kind} (h : K.lim m = true) : KR ρ m K (K.ren ρ)
  | row {z : Nat} {xs : List (List AV)} : KR ρ m (.row z xs) (.row z xs)
  | wr {z : Nat} {xs : List (List AV)} (h : limLL 0 xs = true) : KR ρ m (.wr z xs) (.wr z xs)
  | map {ks vs : List AV} (h1 : limL 0 ks = true) (h2 : limL 0 vs = true) : KR ρ m (.map ks vs) (.map ks vs)

mutual
theorem AV.lim_mono {m n : Nat} (h : m ≤ n) : ∀ x : AV, x.lim m = true → x.lim n = true
  | .ptr id _, hl => by simp only [AV.lim, Nat.blt_eq] at *; omega
  | .own id, hl => by simp only [AV.lim, Nat.blt_eq] at *; omega
  | .eptr id _ _, hl => by simp only [AV.lim, Nat.blt_eq] at *; omega
  | .iface _ x, hl => by simp only [AV.lim] at *; exact AV.lim_mono h x hl
  | .fn _ cs, hl => by simp only [AV.lim] at *; exact limL_mono h cs hl
  | .agg cs, hl => by simp only [AV.lim] at *; exact limL_mono h cs hl
  | .tup cs, hl => by simp only [AV.lim] at *; exact limL_mono h cs hl
  | .any, _ | .bool _, _ | .int _ _, _ | .str _, _ | .nilp, _ | .nilS, _ | .nilM, _ | .rd _, _ | .sl _, _ | .nilI, _ | .nilF, _ | .raw _, _ => rfl
theorem limL_mono {m n : Nat} (h : m ≤ n) : ∀ xs : List AV, limL m xs = true → limL n xs = true
  | [], _ => rfl
  | x :: xs, hl => by
    simp only [limL, Bool.and_eq_true] at *
    exact ⟨AV.lim_mono h x hl.1, limL_mono h xs hl.2⟩
end

mutual
theorem AV.ren_closed {ρ : Nat → Nat} : ∀ x : AV, x.lim 0 = true → x.ren ρ = x
  | .ptr id _, hl => by simp [AV.lim] at hl
  | .own id, hl => by simp [AV.lim] at hl
  | .eptr id _ _, hl => by simp [AV.lim] at hl
  | .iface _ x, hl => by simp only [AV.lim] at hl; simp only [AV.ren, AV.ren_closed x hl]
  | .fn _ cs, hl => by simp only [AV.lim] at hl; simp only [AV.ren, renL_closed cs hl]
  | .agg cs, hl => by simp only [AV.lim] at hl; simp only [AV.ren, renL_closed cs hl]
  | .tup cs, hl => by simp only [AV.lim] at hl; simp only [AV.ren, renL_closed cs hl]
  | .any, _ | .bool _, _ | .int _ _, _ | .str _, _ | .nilp, _ | .nilS, _ | .nilM, _ | .rd _, _ | .sl _, _ | .nilI, _ | .nilF, _ | .raw _, _ => rfl
theorem renL_closed {ρ : Nat → Nat} : ∀ xs : List AV, limL 0 xs = true → renL ρ xs = xs
  | [], _ => rfl
  | x :: xs, hl => by
    simp only [limL, Bool.and_eq_true] at hl
    simp only [renL, AV.ren_closed x hl.1, renL_closed xs hl.2]
end

theorem limLL_mono {m n : Nat} (h : m ≤ n) : ∀ xs : List (List AV), limLL m xs = true → limLL n xs = true
  | [], _ => rfl
  | x :: xs, hl => by
    simp only [limLL, Bool.and_eq_true] at *
    exact ⟨limL_mono h x hl.1, limLL_mono h xs hl.2⟩

theorem renLL_closed {ρ : Nat → Nat} : ∀ xs : List (List AV), limLL 0 xs = true → xs.map (renL ρ) = xs
  | [], _ => rfl
  | x :: xs, hl => by
    simp only [limLL, Bool.and_eq_true] at hl
    simp only [List.map_cons, renL_closed x hl.1, renLL_closed xs hl.2]

theorem KR.eq {ρ : Nat → Nat} {m : Nat} {K K' : Kind} (h : KR ρ m K K') : K.lim m = true ∧ K' = K.ren ρ := by
  cases h with
  | ren h => exact ⟨h, rfl⟩
  | row => exact ⟨rfl, rfl⟩
  | wr h => exact ⟨limLL_mono (Nat.zero_le _) _ h, by simp only [Kind.ren, renLL_closed _ h]⟩
  | map h1 h2 => exact ⟨by simp only [Kind.lim, limL_mono (Nat.zero_le _) _ h1, limL_mono (Nat.zero_le _) _ h2, Bool.and_self], by simp only [Kind.ren, renL_closed _ h1, renL_closed _ h2]⟩

/-- x is told as y: as it stands, or as what it holds. -/
def Told (O : List (Nat × Kind)) (x y : AV) : Prop := x = y ∨ snap O x = y

def SubSR (σ : List (Nat × AV)) (O : List (Nat × Kind)) (L : List Nat) : List (Nat × AV) → Prop
  | [] => True
  | (t, v) :: r => (Told O (lk σ t) (v.ren (rho L 0)) ∧ v.lim L.length = true) ∧ SubSR σ O L r

def SubHR (H : List (Nat × Nat × AV)) (O : List (Nat × Kind)) (L : List Nat) : List (Nat × Nat × AV) → Prop
  | [] => True
  | (i, o, v) :: r => ((∃ x, lkH H (rho L 0 i) o = some x ∧ Told O x (v.ren (rho L 0))) ∧ v.lim L.length = true ∧ Nat.blt i L.length = true) ∧ SubHR H O L r

def SubOR (O : List (Nat × Kind)) (L : List Nat) : List (Nat × Kind) → Prop
  | [] => True
  | (i, K) :: r => ((∃ K', lkO O (rho L 0 i) = some K' ∧ KR (rho L 0) L.length K K') ∧ Nat.blt i L.length = true) ∧ SubOR O L r

/-- The first ones are numbered as they were. -/
def keepsTo : Nat → List Nat → Nat → Bool
  | 0, _, _ => true
  | _ + 1, [], _ => false
  | n + 1, x :: r, i => Nat.beq x i && keepsTo n r (i + 1)

theorem keepsTo_get : ∀ {n : Nat} {L : List Nat} {i : Nat}, keepsTo n L i = true → ∀ j, j < n → L[j]? = some (i + j)
  | 0, _, _, _, j, h => by omega
  | n + 1, [], _, h, _, _ => by simp [keepsTo] at h
  | n + 1, x :: r, i, h, 0, _ => by
    simp only [keepsTo, Bool.and_eq_true, Nat.beq_eq] at h
    simp [h.1]
  | n + 1, x :: r, i, h, j + 1, hj => by
    simp only [keepsTo, Bool.and_eq_true, Nat.beq_eq] at h
    have := keepsTo_get h.2 j (by omega)
    simp only [List.getElem?_cons_succ, this]
    congr 1; omega

theorem keepsTo_len {n : Nat} {L : List Nat} {i : Nat} (h : keepsTo n L i = true) : n ≤ L.length := by
  refine Nat.le_of_not_lt fun hlt => ?_
  have := keepsTo_get h L.length hlt
  simp at this

structure SubR (L : List Nat) (s s' : St) : Prop where
  g : good s.n L = true
  n : s'.n = L.length
  σ : SubSR s.σ s.O L s'.σ
  H : SubHR s.H s.O L s'.H
  O : SubOR s.O L s'.O

theorem SubSR.lk {σ : List (Nat × AV)} {O : List (Nat × Kind)} {L : List Nat} : ∀ {σ' : List (Nat × AV)}, SubSR σ O L σ' → ∀ t, Go.Pv.lk σ' t = .any ∨ (Told O (Go.Pv.lk σ t) ((Go.Pv.lk σ' t).ren (rho L 0)) ∧ (Go.Pv.lk σ' t).lim L.length = true)
  | [], _, _ => .inl rfl
  | (u, v) :: r, h, t => by
    simp only [Go.Pv.lk]
    by_cases hu : Nat.beq u t = true
    · have : u = t := by simpa using hu
      subst this
      simp only [Nat.beq_refl, if_true]
      exact .inr h.1
    · simp only [hu, if_false, Bool.false_eq_true]
      exact SubSR.lk h.2 t

theorem SubHR.lk {H : List (Nat × Nat × AV)} {O : List (Nat × Kind)} {L : List Nat} : ∀ {H' : List (Nat × Nat × AV)}, SubHR H O L H' → ∀ i o x, lkH H' i o = some x →
    (∃ y, lkH H (rho L 0 i) o = some y ∧ Told O y (x.ren (rho L 0))) ∧ x.lim L.length = true ∧ i < L.length
  | [], _, _, _, _, e => by simp [lkH] at e
  | (j, p, v) :: r, h, i, o, x, e => by
    simp only [lkH] at e
    by_cases hu : (Nat.beq j i && Nat.beq p o) = true
    · rw [if_pos hu] at e
      simp only [Bool.and_eq_true, Nat.beq_eq] at hu
      obtain ⟨rfl, rfl⟩ := hu
      obtain rfl := Option.some.inj e
      exact ⟨h.1.1, h.1.2.1, by simpa using h.1.2.2⟩
    · rw [if_neg hu] at e
      exact SubHR.lk h.2 i o x e

theorem Told.rep {w : World} {g : G} {O : List (Nat × Kind)} (hO : RelO O w g) {x y : AV} {v : Value} (h : Told O x y) (r : Rep w g x v) : Rep w g y v := by
  rcases h with rfl | rfl
  · exact r
  · exact rep_snap hO r

theorem SubOR.lk {O : List (Nat × Kind)} {L : List Nat} : ∀ {O' : List (Nat × Kind)}, SubOR O L O' → ∀ i K, lkO O' i = some K →
    lkO O (rho L 0 i) = some (K.ren (rho L 0)) ∧ K.lim L.length = true ∧ i < L.length
  | [], _, _, _, e => by simp [lkO] at e
  | (j, y) :: r, h, i, K, e => by
    simp only [lkO] at e
    by_cases hu : Nat.beq j i = true
    · rw [if_pos hu] at e
      simp only [Nat.beq_eq] at hu
      subst hu
      obtain rfl := Option.some.inj e
      obtain ⟨⟨K', h1, h2⟩, h3⟩ := h.1
      obtain ⟨h4, rfl⟩ := h2.eq
      exact ⟨h1, h4, by simpa using h3⟩
    · rw [if_neg hu] at e
      exact SubOR.lk h.2 i K e

section
variable {P : Program} {N n0 : Nat} {Q : Post} {s s' : St} {w0 : World} {g0 : G} {a : Act} {w : World} {g : G} {ops : Array Oper} {o : Oper} {rest : List Oper} {L : List Nat}

theorem rho0 {n : Nat} : ∀ x : AV, x.lim L.length = true → x.ren (rho L n) = x.ren (rho L 0) := by
  have key : ∀ i, i < L.length → rho L n i = rho L 0 i := fun i h => rho_any h
  intro x
  refine (?_ : ∀ x : AV, x.lim L.length = true → x.ren (rho L n) = x.ren (rho L 0)) x
  intro x hl
  exact ren_congr key x hl
where
  ren_congr {ρ ρ' : Nat → Nat} {m : Nat} (key : ∀ i, i < m → ρ i = ρ' i) : ∀ x : AV, x.lim m = true → x.ren ρ = x.ren ρ'
  | .ptr id _, hl => by simp only [AV.lim, Nat.blt_eq] at hl; simp only [AV.ren, key id hl]
  | .own id, hl => by simp only [AV.lim, Nat.blt_eq] at hl; simp only [AV.ren, key id hl]
  | .eptr id _ _, hl => by simp only [AV.lim, Nat.blt_eq] at hl; simp only [AV.ren, key id hl]
  | .iface _ x, hl => by simp only [AV.lim] at hl; simp only [AV.ren, ren_congr key x hl]
  | .fn _ cs, hl => by simp only [AV.lim] at hl; simp only [AV.ren, renL_congr key cs hl]
  | .agg cs, hl => by simp only [AV.lim] at hl; simp only [AV.ren, renL_congr key cs hl]
  | .tup cs, hl => by simp only [AV.lim] at hl; simp only [AV.ren, renL_congr key cs hl]
  | .any, _ | .bool _, _ | .int _ _, _ | .str _, _ | .nilp, _ | .nilS, _ | .nilM, _ | .rd _, _ | .sl _, _ | .nilI, _ | .nilF, _ | .raw _, _ => rfl
  renL_congr {ρ ρ' : Nat → Nat} {m : Nat} (key : ∀ i, i < m → ρ i = ρ' i) : ∀ xs : List AV, limL m xs = true → renL ρ xs = renL ρ' xs
  | [], _ => rfl
  | x :: xs, hl => by
    simp only [limL, Bool.and_eq_true] at hl
    simp only [renL, ren_congr key x hl.1, renL_congr key xs hl.2]

theorem handed_ren0 (hg : good s.n L = true) : Ren (rho L 0) L.length (handed g L) g := by
  have h := handed_ren (g := g) hg
  refine ⟨fun j hj => ?_, fun j hj => ?_, fun j hj => ?_, h.top⟩
  · rw [rho_any (n' := s.n) hj]; exact h.blk j hj
  · rw [rho_any (n' := s.n) hj]; exact h.own j hj
  · rw [rho_any (n' := s.n) hj]; exact h.wd j hj

theorem handed_owned0 (hg : good s.n L = true) : Owned (rho L 0) L.length (handed g L) g := by
  intro j hj b
  rw [rho_any (n' := s.n) hj]; exact handed_owned hg j hj b

theorem RelH.handed {H H' : List (Nat × Nat × AV)} {O : List (Nat × Kind)} (h : RelH H w g) (ho : RelO O w g) (hg : good s.n L = true) (hs : SubHR H O L H') : RelH H' w (handed g L) := by
  intro i o x hx
  obtain ⟨⟨y, h1, h1'⟩, h2, h3⟩ := hs.lk i o x hx
  obtain ⟨b, c, e, hb, hw, v, hv, r⟩ := h _ o _ h1
  exact ⟨b, c, e, by rw [← (handed_ren0 (s := s) (g := g) hg).blk i h3]; exact hb, hw, v, hv, (Rep.ren (handed_ren0 (s := s) hg) x v h2).1 (h1'.rep ho r)⟩

theorem RelO.handed {O O' : List (Nat × Kind)} (h : RelO O w g) (hg : good s.n L = true) (hs : SubOR O L O') : RelO O' w (handed g L) := by
  intro i K hx
  obtain ⟨h1, h2, h3⟩ := hs.lk i K hx
  exact (Kind.ren_iff (handed_ren0 (s := s) hg) (handed_owned0 (s := s) hg) h3 h2).1 (h.at h1)

/-- A state with other numbers. -/
theorem Inv.ren (h : Inv N n0 w0 g0 s a w g) (hs : SubR L s s') (hk : keepsTo n0 L 0 = true) : Inv N n0 w0 g0 s' a w (handed g L) where
  defers := h.defers
  size := h.size
  slots t := by
    rcases hs.σ.lk t with e | ⟨e, hl⟩
    · rw [e]; trivial
    · exact (Rep.ren (handed_ren0 (s := s) hs.g) _ _ hl).1 (e.rep h.owns (h.slots t))
  cells := h.cells.handed h.owns hs.g hs.H
  owns := h.owns.handed hs.g hs.O
  wf := by rw [hs.n]; exact handed_wf hs.g h.wf
  frame := {
    os := h.frame.os
    tape := h.frame.tape
    output := h.frame.output
    size := h.frame.size
    block := h.frame.block
    foreign := fun b hb ho => by
      obtain ⟨k1, k2⟩ := h.frame.foreign b hb ho
      exact ⟨by simp [Go.Pv.handed, k1], k2⟩
    top := h.frame.top
    stable := h.frame.stable
    blk := fun id hi => by
      have := keepsTo_get hk id hi
      simp only [Go.Pv.handed, this, Nat.zero_add]; exact h.frame.blk id hi
    own := fun id hi => by
      have := keepsTo_get hk id hi
      simp only [Go.Pv.handed, this, Nat.zero_add]; exact h.frame.own id hi
    wd := fun id hi => by
      have := keepsTo_get hk id hi
      simp only [Go.Pv.handed, this, Nat.zero_add]; exact h.frame.wd id hi }
  nle := by rw [hs.n]; exact keepsTo_len hk

theorem awp_ren {c : Code} (hs : SubR L s s') (hk : keepsTo n0 L 0 = true) (h : awp P N n0 c Q s') : awp P N n0 c Q s :=
  fun w0 g0 a w _ hi => h w0 g0 a w _ (hi.ren hs hk)

open Classical in
/-- A loop whose states, at its head, are told with other numbers. -/
theorem awp_loopR {c : Code} {ι : Type} (inv : ι → St) (good : ι → Prop) (μ : ι → Nat) (i0 : ι) (h0 : good i0) (hs : ∃ L, keepsTo n0 L 0 = true ∧ SubR L s (inv i0))
    (round : ∀ i, good i → awp P N n0 c (Post.then (fun s' => ∃ j, good j ∧ μ j < μ i ∧ ∃ L, keepsTo n0 L 0 = true ∧ SubR L s' (inv j)) Q) (inv i)) : awp P N n0 (.loop c) Q s := by
  intro w0 g0 a w g hi
  let I : Act → World → Nat → Prop := fun a w m => ∃ i g, good i ∧ μ i = m ∧ Inv N n0 w0 g0 (inv i) a w g
  obtain ⟨L, hk, hs⟩ := hs
  refine wp_loop (fun a w => ∃ m, I a w m) (fun a w => if h : ∃ m, I a w m then Classical.choose (least_of h) else 0) ⟨_, i0, _, h0, rfl, hi.ren hs hk⟩ ?_
  intro a w hI
  obtain ⟨⟨i, g, hg, hm, hinv⟩, hleast⟩ := Classical.choose_spec (least_of hI)
  refine wp_mono (round i hg w0 g0 a w g hinv) ?_
  rintro e a' w' ⟨s', g', hq, hi'⟩
  cases e with
  | normal =>
    obtain ⟨j, hj, hlt, L, hk, hsub⟩ := hq
    have hI' : ∃ m, I a' w' m := ⟨_, j, _, hj, rfl, hi'.ren hsub hk⟩
    refine ⟨hI', ?_⟩
    rw [dif_pos hI, dif_pos hI']
    have := (Classical.choose_spec (least_of hI')).2 (μ j) ⟨j, _, hj, rfl, hi'.ren hsub hk⟩
    omega
  | _ => exact ⟨s', g', hq, hi'⟩

/-! ### calls -/

/-- Called with such arguments, function f, which is handed things numbered 0 to m - 1 (H, O), comes to what K tells: its answer, and what it leaves. -/
def ACall (P : Program) (f : FuncId) (m : Nat) (args : List AV) (H : List (Nat × Nat × AV)) (O : List (Nat × Kind)) (K : AV → List (Nat × Nat × AV) → List (Nat × Kind) → Nat → Prop) : Prop :=
  goes P f = true ∧ ∀ w g vals, WF g w m → RepL w g args vals → RelH H w g → RelO O w g →
    Calls P f vals.toArray w fun e w' => ∃ v r H' O' n' g', e = .returned v ∧ K r H' O' n' ∧ Rep w' g' r v ∧ RelH H' w' g' ∧ RelO O' w' g' ∧ WF g' w' n' ∧ m ≤ n' ∧ Frame w g m w' g'

theorem ACall.mono {f : FuncId} {m : Nat} {args : List AV} {H : List (Nat × Nat × AV)} {O : List (Nat × Kind)} {K K' : AV → List (Nat × Nat × AV) → List (Nat × Kind) → Nat → Prop}
    (h : ACall P f m args H O K) (hk : ∀ r H O n, K r H O n → K' r H O n) : ACall P f m args H O K' :=
  ⟨h.1, fun w g vals a b c d => (h.2 w g vals a b c d).mono fun e w' ⟨v, r, H', O', n', g', h1, h2, h3⟩ => ⟨v, r, H', O', n', g', h1, hk _ _ _ _ h2, h3⟩⟩

def renH (ρ : Nat → Nat) (H : List (Nat × Nat × AV)) : List (Nat × Nat × AV) := H.map fun e => (ρ e.1, e.2.1, e.2.2.ren ρ)
def renO (ρ : Nat → Nat) (O : List (Nat × Kind)) : List (Nat × Kind) := O.map fun e => (ρ e.1, e.2.ren ρ)
def dropH (L : List Nat) : List (Nat × Nat × AV) → List (Nat × Nat × AV)
  | [] => []
  | e :: r => if (idx L e.1).isNone then e :: dropH L r else dropH L r
def dropO (L : List Nat) : List (Nat × Kind) → List (Nat × Kind)
  | [] => []
  | e :: r => if (idx L e.1).isNone then e :: dropO L r else dropO L r

theorem lkH_append {A B : List (Nat × Nat × AV)} {i o : Nat} {x : AV} (h : lkH (A ++ B) i o = some x) : lkH A i o = some x ∨ lkH B i o = some x := by
  induction A with
  | nil => exact .inr h
  | cons e A ih =>
    obtain ⟨j, p, v⟩ := e
    simp only [List.cons_append, lkH] at h ⊢
    split at h
    · rename_i hc; rw [if_pos hc]; exact .inl h
    · rename_i hc; rw [if_neg hc]; exact ih h

theorem lkO_append {A B : List (Nat × Kind)} {i : Nat} {x : Kind} (h : lkO (A ++ B) i = some x) : lkO A i = some x ∨ lkO B i = some x := by
  induction A with
  | nil => exact .inr h
  | cons e A ih =>
    obtain ⟨j, v⟩ := e
    simp only [List.cons_append, lkO] at h ⊢
    split at h
    · rename_i hc; rw [if_pos hc]; exact .inl h
    · rename_i hc; rw [if_neg hc]; exact ih h

theorem lkH_dropH {i o : Nat} {x : AV} : ∀ {H : List (Nat × Nat × AV)}, lkH (dropH L H) i o = some x → lkH H i o = some x ∧ idx L i = none
  | [], h => by simp [dropH, lkH] at h
  | (j, p, v) :: r, h => by
    simp only [dropH] at h
    by_cases hi : (idx L j).isNone = true
    · rw [if_pos hi] at h
      simp only [lkH] at h ⊢
      split at h
      · rename_i hc
        rw [if_pos hc]
        simp only [Bool.and_eq_true, Nat.beq_eq] at hc
        refine ⟨h, ?_⟩
        rw [← hc.1]; simpa using hi
      · rename_i hc; rw [if_neg hc]; exact lkH_dropH h
    · rw [if_neg hi] at h
      have := lkH_dropH h
      refine ⟨?_, this.2⟩
      simp only [lkH]
      rw [if_neg]
      · exact this.1
      · intro hc
        simp only [Bool.and_eq_true, Nat.beq_eq] at hc
        rw [hc.1, this.2] at hi
        simp at hi

theorem lkO_dropO {i : Nat} {x : Kind} : ∀ {O : List (Nat × Kind)}, lkO (dropO L O) i = some x → lkO O i = some x ∧ idx L i = none
  | [], h => by simp [dropO, lkO] at h
  | (j, v) :: r, h => by
    simp only [dropO] at h
    by_cases hi : (idx L j).isNone = true
    · rw [if_pos hi] at h
      simp only [lkO] at h ⊢
      split at h
      · rename_i hc
        rw [if_pos hc]
        simp only [Nat.beq_eq] at hc
        refine ⟨h, ?_⟩
        rw [← hc]; simpa using hi
      · rename_i hc; rw [if_neg hc]; exact lkO_dropO h
    · rw [if_neg hi] at h
      have := lkO_dropO h
      refine ⟨?_, this.2⟩
      simp only [lkO]
      rw [if_neg]
      · exact this.1
      · intro hc
        simp only [Nat.beq_eq] at hc
        rw [hc, this.2] at hi
        simp at hi

theorem lkH_renH {ρ : Nat → Nat} {i o : Nat} {x : AV} : ∀ {H : List (Nat × Nat × AV)}, lkH (renH ρ H) i o = some x → ∃ j y, (j, o, y) ∈ H ∧ ρ j = i ∧ x = y.ren ρ ∧ (∀ (hinj : ∀ k, ρ k = ρ j → k = j), lkH H j o = some y)
  | [], h => by simp [renH, lkH] at h
  | (j, p, v) :: r, h => by
    simp only [renH, List.map_cons, lkH] at h
    split at h
    · rename_i hc
      simp only [Bool.and_eq_true, Nat.beq_eq] at hc
      obtain ⟨h1, rfl⟩ := hc
      obtain rfl := Option.some.inj h
      exact ⟨j, v, by simp, h1, rfl, fun _ => by simp [lkH]⟩
    · rename_i hc
      obtain ⟨k, y, h1, h2, h3, h4⟩ := lkH_renH (H := r) h
      refine ⟨k, y, by simp [h1], h2, h3, fun hinj => ?_⟩
      simp only [lkH]
      rw [if_neg]
      · exact h4 hinj
      · intro hc'
        apply hc
        simp only [Bool.and_eq_true, Nat.beq_eq] at hc' ⊢
        exact ⟨by rw [hc'.1, h2], hc'.2⟩

theorem lkO_renO {ρ : Nat → Nat} {i : Nat} {x : Kind} : ∀ {O : List (Nat × Kind)}, lkO (renO ρ O) i = some x → ∃ j y, ρ j = i ∧ x = y.ren ρ ∧ (∀ (hinj : ∀ k, ρ k = ρ j → k = j), lkO O j = some y)
  | [], h => by simp [renO, lkO] at h
  | (j, v) :: r, h => by
    simp only [renO, List.map_cons, lkO] at h
    split at h
    · rename_i hc
      simp only [Nat.beq_eq] at hc
      obtain rfl := Option.some.inj h
      exact ⟨j, v, hc, rfl, fun _ => by simp [lkO]⟩
    · rename_i hc
      obtain ⟨k, y, h2, h3, h4⟩ := lkO_renO (O := r) h
      refine ⟨k, y, h2, h3, fun hinj => ?_⟩
      simp only [lkO]
      rw [if_neg]
      · exact h4 hinj
      · intro hc'
        apply hc
        simp only [Nat.beq_eq] at hc' ⊢
        rw [hc', h2]

end
end Go.Pv
