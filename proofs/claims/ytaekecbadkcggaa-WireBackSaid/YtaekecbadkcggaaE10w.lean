/- Layer 10, plainly: what a message is written as. -/
import Derived.Test.YtaekecbadkcggaaE10
namespace Go.Proofs.Ytaekecbadkcggaa
open Go.Pv
set_option linter.unusedSimpArgs false
set_option linter.unusedVariables false
set_option linter.unusedSectionVars false

/-- A number's bytes. -/
def vi (u : Nat) : Str := if h : u < 128 then [UInt8.ofNat u] else UInt8.ofNat (u % 128 + 128) :: vi (u / 128)
termination_by u
decreasing_by omega
theorem vi_lt {u : Nat} (h : u < 128) : vi u = [UInt8.ofNat u] := by rw [vi, dif_pos h]
theorem vi_ge {u : Nat} (h : ¬ u < 128) : vi u = UInt8.ofNat (u % 128 + 128) :: vi (u / 128) := by rw [vi, dif_neg h]
theorem vi_len : ∀ (k u : Nat), u < 128 ^ (k + 1) → (vi u).length ≤ k + 1
  | 0, u, h => by rw [vi_lt (by simpa using h)]; simp
  | k + 1, u, h => by
    by_cases hu : u < 128
    · rw [vi_lt hu]; simp
    · rw [vi_ge hu]
      have := vi_len k (u / 128) (Nat.div_lt_of_lt_mul (by rw [Nat.pow_succ] at h; omega))
      simp; omega
theorem vi_len64 {u : Nat} (h : u < 18446744073709551616) : (vi u).length ≤ 10 := vi_len 9 u (Nat.lt_of_lt_of_le h (by decide))
theorem u8_nat {u : Nat} (h : u < 256) : u8 (IntKind.wrap .u8 (u : Int)) = UInt8.ofNat u := by
  unfold u8; rw [wrap_u8, show ((u : Int) % 256).toNat = u by omega]
theorem or128 : ∀ c : Fin 256, u8 (bits .or .u8 ((c.val : Nat) : Int) 128) = UInt8.ofNat (c.val % 128 + 128) := by decide +kernel
theorem u8_or (u : Nat) : u8 (bits .or .u8 (IntKind.wrap .u8 (u : Int)) 128) = UInt8.ofNat (u % 128 + 128) := by
  have h1 : IntKind.wrap .u8 (u : Int) = ((u % 256 : Nat) : Int) := by rw [wrap_u8]; omega
  rw [h1, or128 ⟨u % 256, Nat.mod_lt _ (by decide)⟩]
  show UInt8.ofNat (u % 256 % 128 + 128) = _
  rw [show u % 256 % 128 = u % 128 by omega]
theorem shr7 (u : Nat) : shrV .u64 (u : Int) 7 = ((u / 128 : Nat) : Int) := by
  show Int.fdiv (u : Int) (2 ^ 7) = _
  rw [Int.fdiv_eq_ediv_of_nonneg _ (by decide)]; rfl
theorem dwnum {n : Nat} {out : Str} {u : Nat} (hu : u < 18446744073709551616) (hl : out.length + 10 ≤ capN) (hn : 10 < n) : dwire_writer_number n ⟨out⟩ u = some ⟨out ++ vi u⟩ := by
  have key : ∀ (k u : Nat) (out : Str) (n : Nat), u < 128 ^ (k + 1) → out.length + k + 1 ≤ capN → k < n → ∃ (v : Nat) (o : Str), loopD (ε := Int × Str) (τ := Int × Str) (fun (((u2, l1)) : Int × Str) => (bif (decide (u2 ≥ 128)) then ((ap l1 [u8 (bits .or .u8 (IntKind.wrap .u8 u2) 128)]).bind fun l4 => some (Sum.inl (shrV .u64 u2 7, l4))) else some (Sum.inr (u2, l1)))) n ((u : Int), out) = some ((v : Int), o) ∧ v < 128 ∧ o ++ [UInt8.ofNat v] = out ++ vi u ∧ o.length ≤ out.length + k := by
    intro k
    induction k with
    | zero =>
      intro u out n hu hl hn
      obtain ⟨n, rfl⟩ : ∃ j, n = j + 1 := ⟨n - 1, by omega⟩
      have hu : u < 128 := by simpa using hu
      have hd : decide ((u : Int) ≥ 128) = false := by simp; omega
      exact ⟨u, out, loopD_end (by simp only [hd, cond_false]), hu, by rw [vi_lt hu], Nat.le_refl _⟩
    | succ k ih =>
      intro u out n hu hl hn
      obtain ⟨n, rfl⟩ : ∃ j, n = j + 1 := ⟨n - 1, by omega⟩
      by_cases h : u < 128
      · have hd : decide ((u : Int) ≥ 128) = false := by simp; omega
        exact ⟨u, out, loopD_end (by simp only [hd, cond_false]), h, by rw [vi_lt h], by omega⟩
      · have hd : decide ((u : Int) ≥ 128) = true := by simp; omega
        obtain ⟨v, o, h1, h2, h3, h4⟩ := ih (u / 128) (out ++ [UInt8.ofNat (u % 128 + 128)]) n (Nat.div_lt_of_lt_mul (by rw [Nat.pow_succ] at hu; omega)) (by simp; omega) (by omega)
        refine ⟨v, o, (loopD_go (s' := (((u / 128 : Nat) : Int), out ++ [UInt8.ofNat (u % 128 + 128)])) ?_).trans h1, h2, ?_, by simp at h4; omega⟩
        · simp only [hd, cond_true, u8_or, ap_ok (show out.length + [UInt8.ofNat (u % 128 + 128)].length ≤ capN from Nat.le_trans (by simp) hl), Option.bind_some, shr7]
        · rw [h3, vi_ge h]; simp
  obtain ⟨v, o, h1, h2, h3, h4⟩ := key 9 u out n (Nat.lt_of_lt_of_le hu (by decide)) (by omega) (by omega)
  unfold dwire_writer_number
  refine (congrArg (fun o => Option.bind o _) h1).trans ?_
  simp only [Option.bind_some, u8_nat (show v < 256 by omega), ap_ok (show o.length + [UInt8.ofNat v].length ≤ capN from Nat.le_trans (by simp; omega) hl), h3]
theorem drnum {u : Nat} (hu : u < 18446744073709551616) {out : Str} (hl : out.length + 10 ≤ capN) {n : Nat} (hn : 10 < n) : dref10_number n out u = some (out ++ vi u) := by
  have key : ∀ (k u : Nat) (out : Str) (n : Nat), u < 18446744073709551616 → u < 128 ^ (k + 1) → out.length + k + 1 ≤ capN → k < n → dref10_number n out u = some (out ++ vi u) := by
    intro k
    induction k with
    | zero =>
      intro u out n _ hu hl hn
      obtain ⟨n, rfl⟩ : ∃ j, n = j + 1 := ⟨n - 1, by omega⟩
      have hu : u < 128 := by simpa using hu
      have hd : decide ((u : Int) < 128) = true := by simp; omega
      rw [dref10_number]
      simp only [hd, cond_true, u8_nat (show u < 256 by omega), ap_ok (show out.length + [UInt8.ofNat u].length ≤ capN from by simpa using hl), Option.bind_some, vi_lt hu]
    | succ k ih =>
      intro u out n hb hu hl hn
      obtain ⟨n, rfl⟩ : ∃ j, n = j + 1 := ⟨n - 1, by omega⟩
      rw [dref10_number]
      by_cases h : u < 128
      · have hd : decide ((u : Int) < 128) = true := by simp; omega
        simp only [hd, cond_true, u8_nat (show u < 256 by omega), ap_ok (show out.length + [UInt8.ofNat u].length ≤ capN from Nat.le_trans (by simp) hl), Option.bind_some, vi_lt h]
      · have hd : decide ((u : Int) < 128) = false := by simp; omega
        have hq1 : remV .u64 (u : Int) 128 = some ((u % 128 : Nat) : Int) := by unfold remV; rw [if_neg (by decide)]; rfl
        have hq2 : quoV .u64 (u : Int) 128 = some ((u / 128 : Nat) : Int) := by
          unfold quoV; rw [if_neg (by decide), show Int.tdiv (u : Int) 128 = ((u / 128 : Nat) : Int) from rfl, wrap_u64 (by omega)]
        have hb8 : u8 (IntKind.wrap .u8 ((IntKind.wrap .u8 ((u % 128 : Nat) : Int)) + 128)) = UInt8.ofNat (u % 128 + 128) := by
          have : IntKind.wrap .u8 ((u % 128 : Nat) : Int) = ((u % 128 : Nat) : Int) := by rw [wrap_u8]; omega
          rw [this, show ((u % 128 : Nat) : Int) + 128 = ((u % 128 + 128 : Nat) : Int) by omega, u8_nat (by omega)]
        have ih := ih (u / 128) (out ++ [UInt8.ofNat (u % 128 + 128)]) n (by omega) (Nat.div_lt_of_lt_mul (by rw [Nat.pow_succ] at hu; omega)) (by simp; omega) (by omega)
        simp only [hd, cond_false, hq1, hq2, hb8, ap_ok (show out.length + [UInt8.ofNat (u % 128 + 128)].length ≤ capN from Nat.le_trans (by simp) hl), Option.bind_some, ih, vi_ge h]
        simp
  exact key 9 u out n hu (Nat.lt_of_lt_of_le hu (by decide)) (by omega) (by omega)
/-! ### numbers that have a sign -/
def zz (n : Int) : Nat := if n < 0 then (2 * (-(n + 1)) + 1).toNat else (2 * n).toNat
def i64 (n : Int) : Prop := -9223372036854775808 ≤ n ∧ n < 9223372036854775808
theorem zz_lt {n : Int} (h : i64 n) : zz n < 18446744073709551616 := by unfold i64 at h; unfold zz; split <;> omega
theorem wrapU (x : Int) : IntKind.wrap .u64 x = x % 18446744073709551616 := rfl
theorem zz_code {n : Int} (h : i64 n) : bits .xor .u64 (shlV .u64 (IntKind.wrap .u64 n) 1) (IntKind.wrap .u64 (shrV .i64 n 63)) = (zz n : Int) := by
  unfold i64 at h
  have hs : shrV .i64 n 63 = n.fdiv 9223372036854775808 := rfl
  have hl : shlV .u64 (IntKind.wrap .u64 n) 1 = IntKind.wrap .u64 (IntKind.wrap .u64 n * 2) := rfl
  rw [hs, hl]
  show IntKind.wrap .u64 ((BitVec.ofInt 64 _ ^^^ BitVec.ofInt 64 _).toNat : Int) = _
  unfold zz
  by_cases hn : n < 0
  · have h1 : n.fdiv 9223372036854775808 = -1 := by rw [Int.fdiv_eq_ediv_of_nonneg _ (by decide)]; omega
    have h2 : IntKind.wrap .u64 (IntKind.wrap .u64 n * 2) = ((2 * n + 18446744073709551616).toNat : Int) := by rw [wrapU, wrapU]; omega
    have h3 : BitVec.ofInt 64 (IntKind.wrap .u64 (-1)) = BitVec.allOnes 64 := by decide
    rw [h1, h2, h3, BitVec.xor_allOnes, BitVec.toNat_not, if_pos hn, BitVec.ofInt_natCast, BitVec.toNat_ofNat, wrapU]
    omega
  · have h1 : n.fdiv 9223372036854775808 = 0 := by rw [Int.fdiv_eq_ediv_of_nonneg _ (by decide)]; omega
    have h2 : IntKind.wrap .u64 (IntKind.wrap .u64 n * 2) = ((2 * n).toNat : Int) := by rw [wrapU, wrapU]; omega
    have h3 : BitVec.ofInt 64 (IntKind.wrap .u64 0) = 0#64 := by decide
    rw [h1, h2, h3, BitVec.xor_zero, if_neg hn, BitVec.ofInt_natCast, BitVec.toNat_ofNat, wrapU]
    omega
theorem dwsigned {n : Nat} {out : Str} {x : Int} (hx : i64 x) (hl : out.length + 10 ≤ capN) (hn : 10 < n) : dwire_writer_signed n ⟨out⟩ x = some ⟨out ++ vi (zz x)⟩ := by
  unfold dwire_writer_signed; rw [zz_code hx, dwnum (zz_lt hx) hl hn]; rfl
theorem drsigned {n : Nat} {out : Str} {x : Int} (hx : i64 x) (hl : out.length + 10 ≤ capN) (hn : 10 < n) : dref10_signed n out x = some (out ++ vi (zz x)) := by
  have hz := zz_lt hx
  unfold dref10_signed
  unfold i64 at hx
  by_cases h : x < 0
  · have hd : decide (x < 0) = true := by simpa using h
    have he : IntKind.wrap .u64 ((IntKind.wrap .u64 (2 * (IntKind.wrap .u64 (W (0 - (W (x + 1))))))) + 1) = (zz x : Int) := by
      rw [W_id (n := x + 1) (by omega), W_id (n := 0 - (x + 1)) (by omega), wrapU, wrapU, wrapU]
      unfold zz; rw [if_pos h]; omega
    simp only [hd, cond_true, he, drnum hz hl hn, Option.bind_some]
  · have hd : decide (x < 0) = false := by simpa using h
    have he : IntKind.wrap .u64 (2 * (IntKind.wrap .u64 x)) = (zz x : Int) := by
      rw [wrapU, wrapU]; unfold zz; rw [if_neg h]; omega
    simp only [hd, cond_false, he, drnum hz hl hn, Option.bind_some]
/-! ### texts -/
def tx (s : Str) : Str := vi s.length ++ s
theorem dwtext {n : Nat} {out s : Str} (hs : s.length ≤ 1000) (hl : out.length + 1010 ≤ capN) (hn : 10 < n) : dwire_writer_text n ⟨out⟩ s = some ⟨out ++ tx s⟩ := by
  have h1 : IntKind.wrap .u64 (s.length : Int) = (s.length : Int) := wrap_u64 (by omega)
  have h2 := vi_len64 (u := s.length) (by omega)
  unfold dwire_writer_text tx
  rw [h1, dwnum (by omega) (by omega) hn]
  simp only [Option.bind_some, ap_ok (show (out ++ vi s.length).length + s.length ≤ capN from by rw [List.length_append]; omega), List.append_assoc]
theorem drtext {n : Nat} {out s : Str} (hs : s.length ≤ 1000) (hl : out.length + 1010 ≤ capN) (hn : 10 < n) : dref10_text n out s = some (out ++ tx s) := by
  have h1 : IntKind.wrap .u64 (s.length : Int) = (s.length : Int) := wrap_u64 (by omega)
  have h2 := vi_len64 (u := s.length) (by omega)
  unfold dref10_text tx
  rw [h1, drnum (by omega) (by omega) hn]
  simp only [Option.bind_some, ap_ok (show (out ++ vi s.length).length + s.length ≤ capN from by rw [List.length_append]; omega), List.append_assoc]
/-! ### attributes, events, messages -/
def av (a : tAttr) : Str := tx a.Name ++ (if a.Text then 1 :: tx a.S else 0 :: vi (zz a.N))
def avs (l : List tAttr) : Str := (l.map av).flatten
def ews (e : tEvent) : Str := vi e.Pub.toNat ++ (vi e.Seq.toNat ++ (vi (zz e.At.X) ++ (vi (zz e.At.Y) ++ (vi e.Attrs.length ++ avs e.Attrs))))
def mws (m : tMsg) : Str := UInt8.ofNat m.Kind.toNat :: (if m.Kind = 1 then vi m.Sub.toNat ++ (vi m.Version.toNat ++ (vi m.Home.toNat ++ (vi (zz m.Rect.X1) ++ (vi (zz m.Rect.Y1) ++ (vi (zz m.Rect.X2) ++ (vi (zz m.Rect.Y2) ++ tx m.Filter))))))
  else if m.Kind = 2 then vi m.Sub.toNat ++ vi m.Version.toNat else if m.Kind = 4 then vi m.Sub.toNat ++ ews m.Event else ews m.Event)
/-- What an attribute that may be is. -/
structure AtOk (a : tAttr) : Prop where
  nm : a.Name.length ≤ 200
  s : a.S.length ≤ 200
  n : i64 a.N
theorem tx_len {s : Str} (h : s.length ≤ 1000) : (tx s).length ≤ s.length + 10 := by
  have := vi_len64 (u := s.length) (by omega); unfold tx; simp; omega
theorem av_len {a : tAttr} (h : AtOk a) : (av a).length ≤ 421 := by
  have h1 := tx_len (s := a.Name) (by have := h.nm; omega)
  have h2 := tx_len (s := a.S) (by have := h.s; omega)
  have h3 := vi_len64 (zz_lt h.n)
  have := h.nm; have := h.s
  unfold av; split <;> simp <;> omega
theorem avs_len : ∀ {l : List tAttr}, (∀ a ∈ l, AtOk a) → (avs l).length ≤ 421 * l.length
  | [], _ => by simp [avs]
  | a :: l, h => by
    have h1 := av_len (h a (by simp))
    have h2 := avs_len (l := l) fun x hx => h x (by simp [hx])
    unfold avs at *; simp at *; omega
theorem avs_succ {l : List tAttr} {k : Nat} (h : k < l.length) : avs (l.take (k + 1)) = avs (l.take k) ++ av l[k] := by
  unfold avs; rw [List.take_add_one, List.getElem?_eq_getElem h, List.map_append, List.flatten_append]
  show _ ++ (List.map av [l[k]]).flatten = _
  simp only [List.map_cons, List.map_nil, List.flatten_cons, List.flatten_nil, List.append_nil]
structure EvOk (e : tEvent) : Prop where
  pub : 0 ≤ e.Pub ∧ e.Pub < 2147483648
  seq : 0 ≤ e.Seq ∧ e.Seq < 4294967296
  x : i64 e.At.X
  y : i64 e.At.Y
  len : e.Attrs.length ≤ 16
  at_ : ∀ a ∈ e.Attrs, AtOk a
theorem wnat {z : Int} (h : 0 ≤ z) (h2 : z < 18446744073709551616) : IntKind.wrap .u64 z = ((z.toNat : Nat) : Int) := by rw [wrapU]; omega
theorem vi1 : vi 1 = [1] := by rw [vi_lt (by decide)]; rfl
theorem vi0 : vi 0 = [0] := by rw [vi_lt (by decide)]; rfl
theorem dwevent {n : Nat} {out : Str} {e : tEvent} (h : EvOk e) (hl : out.length ≤ 100000) (hn : 1000 < n) : dwire_writer_event n ⟨out⟩ e = some ⟨out ++ ews e⟩ := by
  have hc : ∀ k : Nat, k ≤ 1000000 → k ≤ capN := fun k hk => Nat.le_trans hk (by decide)
  obtain ⟨⟨p1, p2⟩, ⟨q1, q2⟩, hx, hy, hlen, hat⟩ := h
  have l1 := vi_len64 (u := e.Pub.toNat) (by omega)
  have l2 := vi_len64 (u := e.Seq.toNat) (by omega)
  have l3 := vi_len64 (zz_lt hx)
  have l4 := vi_len64 (zz_lt hy)
  have l5 := vi_len64 (u := e.Attrs.length) (by omega)
  unfold dwire_writer_event
  rw [wnat p1 (by omega), wnat q1 (by omega), wrap_u64 (show e.Attrs.length < 18446744073709551616 by omega)]
  rw [dwnum (by omega) (hc _ (by omega)) (by omega), Option.bind_some, dwnum (by omega) (hc _ (by simp; omega)) (by omega), Option.bind_some, dwsigned hx (hc _ (by simp; omega)) (by omega), Option.bind_some,
    dwsigned hy (hc _ (by simp; omega)) (by omega), Option.bind_some, dwnum (by omega) (hc _ (by simp; omega)) (by omega), Option.bind_some]
  generalize hB : out ++ vi e.Pub.toNat ++ vi e.Seq.toNat ++ vi (zz e.At.X) ++ vi (zz e.At.Y) ++ vi e.Attrs.length = B
  have hBl : B.length ≤ 100050 := by rw [← hB]; simp; omega
  rw [show ((0 : Int), B) = (((0 : Nat) : Int), B ++ avs (e.Attrs.take 0)) from by simp [avs]]
  refine (congrArg (fun o => Option.bind o _) (loopD_traj (fun k => ((k : Int), B ++ avs (e.Attrs.take k))) e.Attrs.length (e := B ++ avs e.Attrs) (fun k hk => ?_) ?_ n (by omega))).trans ?_
  · have hd : decide ((k : Int) < (e.Attrs.length : Int)) = true := by simpa using hk
    have ha := hat _ (List.getElem_mem hk)
    have hA := avs_len (l := e.Attrs.take k) fun x hx => hat x (List.mem_of_mem_take hx)
    have hA2 : (avs (e.Attrs.take k)).length ≤ 6736 := by rw [List.length_take] at hA; omega
    have hnm := ha.nm; have hs := ha.s
    have t1 := tx_len (s := e.Attrs[k].Name) (by omega)
    have hX : (B ++ avs (e.Attrs.take k)).length ≤ 106786 := by simp; omega
    generalize hXe : B ++ avs (e.Attrs.take k) = X at *
    simp only [hd, cond_true, gi_lt hk, Option.bind_some, dwtext (n := n) (out := X) (s := e.Attrs[k].Name) (by omega) (hc _ (by omega)) (by omega)]
    have hav : B ++ avs (e.Attrs.take (k + 1)) = X ++ av e.Attrs[k] := by rw [avs_succ hk, ← List.append_assoc, hXe]
    rw [hav]
    unfold av
    cases hT : e.Attrs[k].Text with
    | true =>
      have e1 : dwire_writer_number n ⟨X ++ tx e.Attrs[k].Name⟩ 1 = some ⟨X ++ tx e.Attrs[k].Name ++ [1]⟩ := by have := dwnum (n := n) (out := X ++ tx e.Attrs[k].Name) (u := 1) (by decide) (hc _ (by simp; omega)) (by omega); rw [vi1] at this; exact this
      have e2 := dwtext (n := n) (out := X ++ tx e.Attrs[k].Name ++ [1]) (s := e.Attrs[k].S) (by omega) (hc _ (by simp; omega)) (by omega)
      simp only [cond_true, if_true, e1, e2, Option.bind_some, W_suc (show k + 1 < 9223372036854775808 by omega)]
      simp
    | false =>
      have e1 : dwire_writer_number n ⟨X ++ tx e.Attrs[k].Name⟩ 0 = some ⟨X ++ tx e.Attrs[k].Name ++ [0]⟩ := by have := dwnum (n := n) (out := X ++ tx e.Attrs[k].Name) (u := 0) (by decide) (hc _ (by simp; omega)) (by omega); rw [vi0] at this; exact this
      have e2 := dwsigned (n := n) (out := X ++ tx e.Attrs[k].Name ++ [0]) (x := e.Attrs[k].N) ha.n (hc _ (by simp; omega)) (by omega)
      simp only [cond_false, e1, e2, Option.bind_some, W_suc (show k + 1 < 9223372036854775808 by omega)]
      simp
  · have hd : decide ((e.Attrs.length : Int) < (e.Attrs.length : Int)) = false := by simp
    simp only [hd, cond_false, List.take_length]
  · rw [← hB]; simp only [Option.bind_some, ews, List.append_assoc]
theorem drbytes {n : Nat} {out : Str} {e : tEvent} (h : EvOk e) (hl : out.length ≤ 100000) (hn : 1000 < n) : dref10_bytes n out e = some (out ++ ews e) := by
  have hc : ∀ k : Nat, k ≤ 1000000 → k ≤ capN := fun k hk => Nat.le_trans hk (by decide)
  obtain ⟨⟨p1, p2⟩, ⟨q1, q2⟩, hx, hy, hlen, hat⟩ := h
  have l1 := vi_len64 (u := e.Pub.toNat) (by omega)
  have l2 := vi_len64 (u := e.Seq.toNat) (by omega)
  have l3 := vi_len64 (zz_lt hx)
  have l4 := vi_len64 (zz_lt hy)
  have l5 := vi_len64 (u := e.Attrs.length) (by omega)
  unfold dref10_bytes
  rw [wnat p1 (by omega), wnat q1 (by omega), wrap_u64 (show e.Attrs.length < 18446744073709551616 by omega)]
  rw [drnum (by omega) (hc _ (by omega)) (by omega), Option.bind_some, drnum (by omega) (hc _ (by simp; omega)) (by omega), Option.bind_some, drsigned hx (hc _ (by simp; omega)) (by omega), Option.bind_some,
    drsigned hy (hc _ (by simp; omega)) (by omega), Option.bind_some, drnum (by omega) (hc _ (by simp; omega)) (by omega), Option.bind_some]
  generalize hB : out ++ vi e.Pub.toNat ++ vi e.Seq.toNat ++ vi (zz e.At.X) ++ vi (zz e.At.Y) ++ vi e.Attrs.length = B
  have hBl : B.length ≤ 100050 := by rw [← hB]; simp; omega
  rw [show ((0 : Int), B) = (((0 : Nat) : Int), B ++ avs (e.Attrs.take 0)) from by simp [avs]]
  refine (congrArg (fun o => Option.bind o _) (loopD_traj (fun k => ((k : Int), B ++ avs (e.Attrs.take k))) e.Attrs.length (e := B ++ avs e.Attrs) (fun k hk => ?_) ?_ n (by omega))).trans ?_
  · have hd : decide ((k : Int) < (e.Attrs.length : Int)) = true := by simpa using hk
    have ha := hat _ (List.getElem_mem hk)
    have hA := avs_len (l := e.Attrs.take k) fun x hx => hat x (List.mem_of_mem_take hx)
    have hA2 : (avs (e.Attrs.take k)).length ≤ 6736 := by rw [List.length_take] at hA; omega
    have hnm := ha.nm; have hs := ha.s
    have t1 := tx_len (s := e.Attrs[k].Name) (by omega)
    have hX : (B ++ avs (e.Attrs.take k)).length ≤ 106786 := by simp; omega
    generalize hXe : B ++ avs (e.Attrs.take k) = X at *
    simp only [hd, cond_true, gi_lt hk, Option.bind_some, drtext (n := n) (out := X) (s := e.Attrs[k].Name) (by omega) (hc _ (by omega)) (by omega)]
    have hav : B ++ avs (e.Attrs.take (k + 1)) = X ++ av e.Attrs[k] := by rw [avs_succ hk, ← List.append_assoc, hXe]
    rw [hav]
    unfold av
    cases hT : e.Attrs[k].Text with
    | true =>
      have e1 : ap (X ++ tx e.Attrs[k].Name) [1] = some (X ++ tx e.Attrs[k].Name ++ [1]) := ap_ok (hc _ (by simp; omega))
      have e2 := drtext (n := n) (out := X ++ tx e.Attrs[k].Name ++ [1]) (s := e.Attrs[k].S) (by omega) (hc _ (by simp; omega)) (by omega)
      simp only [cond_true, if_true, e1, e2, Option.bind_some, W_suc (show k + 1 < 9223372036854775808 by omega)]
      simp
    | false =>
      have e1 : ap (X ++ tx e.Attrs[k].Name) [0] = some (X ++ tx e.Attrs[k].Name ++ [0]) := ap_ok (hc _ (by simp; omega))
      have e2 := drsigned (n := n) (out := X ++ tx e.Attrs[k].Name ++ [0]) (x := e.Attrs[k].N) ha.n (hc _ (by simp; omega)) (by omega)
      simp only [cond_false, e1, e2, Option.bind_some, W_suc (show k + 1 < 9223372036854775808 by omega)]
      simp
  · have hd : decide ((e.Attrs.length : Int) < (e.Attrs.length : Int)) = false := by simp
    simp only [hd, cond_false, List.take_length]
  · rw [← hB]; simp only [Option.bind_some, ews, List.append_assoc]
/-! ### what may be -/
/-- Whole numbers of a message. -/
structure MsgI (m : tMsg) : Prop where
  x1 : i64 m.Rect.X1
  y1 : i64 m.Rect.Y1
  x2 : i64 m.Rect.X2
  y2 : i64 m.Rect.Y2
  x : i64 m.Event.At.X
  y : i64 m.Event.At.Y
  seq : 0 ≤ m.Event.Seq ∧ m.Event.Seq < 4294967296
  n : ∀ a ∈ m.Event.Attrs, i64 a.N
theorem fewB_of {n : Int} (h : fewB n = true) : 0 ≤ n ∧ n ≤ 2147483647 := by unfold fewB at h; simpa using h
theorem evOk_of {m : tMsg} (hi : MsgI m) (h : evB m.Event = true) : EvOk m.Event := by
  unfold evB at h
  simp only [Bool.and_eq_true, decide_eq_true_eq, List.all_eq_true] at h
  obtain ⟨h1, h2, h3, h4⟩ := h
  have h1 := fewB_of h1
  exact ⟨by omega, hi.seq, hi.x, hi.y, by omega, fun a ha => by
    have := h4 a ha
    unfold atB at this
    simp only [Bool.and_eq_true, decide_eq_true_eq] at this
    exact ⟨by omega, by omega, hi.n a ha⟩⟩
theorem noEv {e : tEvent} (h : noB e = true) : e = ⟨0, 0, ⟨0, 0⟩, []⟩ := by
  unfold noB at h
  simp only [Bool.and_eq_true, beq_iff_eq] at h
  obtain ⟨h1, h2, h3, h4, h5⟩ := h
  cases e with
  | mk a b c d =>
    cases c
    simp only at h1 h2 h3 h4 h5
    subst h1 h2 h3 h4
    have : d = [] := by cases d with | nil => rfl | cons x l => simp at h5; omega
    rw [this]
theorem msgB_few {m : tMsg} (h : msgB m = true) : (0 ≤ m.Sub ∧ m.Sub ≤ 2147483647) ∧ (0 ≤ m.Version ∧ m.Version ≤ 2147483647) ∧ (0 ≤ m.Home ∧ m.Home ≤ 2147483647) ∧ m.Filter.length ≤ 500 := by
  unfold msgB at h
  simp only [Bool.and_eq_true, decide_eq_true_eq] at h
  exact ⟨fewB_of h.1, fewB_of h.2.1, fewB_of h.2.2.1, by omega⟩
theorem msgB_kind {m : tMsg} (h : msgB m = true) : (m.Kind = 1 ∧ rcB m.Rect = true ∧ noB m.Event = true) ∨ (m.Kind = 2 ∧ bareB m = true ∧ noB m.Event = true) ∨
    (m.Kind = 3 ∧ bareB m = true ∧ m.Sub = 0 ∧ m.Version = 0 ∧ evB m.Event = true) ∨ (m.Kind = 4 ∧ bareB m = true ∧ m.Version = 0 ∧ evB m.Event = true) := by
  unfold msgB at h
  simp only [Bool.and_eq_true] at h
  have h := h.2.2.2.2
  by_cases h1 : m.Kind = 1
  · have e1 : (m.Kind == 1) = true := by simp [h1]
    rw [e1] at h; simp only [cond_true, Bool.and_eq_true] at h
    exact .inl ⟨h1, h⟩
  · have e1 : (m.Kind == 1) = false := by simp [h1]
    rw [e1] at h
    by_cases h2 : m.Kind = 2
    · have e2 : (m.Kind == 2) = true := by simp [h2]
      rw [e2] at h; simp only [cond_true, cond_false, Bool.and_eq_true] at h
      exact .inr (.inl ⟨h2, h⟩)
    · have e2 : (m.Kind == 2) = false := by simp [h2]
      rw [e2] at h
      by_cases h3 : m.Kind = 3
      · have e3 : (m.Kind == 3) = true := by simp [h3]
        rw [e3] at h; simp only [cond_true, cond_false, Bool.and_eq_true, beq_iff_eq] at h
        exact .inr (.inr (.inl ⟨h3, h⟩))
      · have e3 : (m.Kind == 3) = false := by simp [h3]
        rw [e3] at h
        by_cases h4 : m.Kind = 4
        · have e4 : (m.Kind == 4) = true := by simp [h4]
          rw [e4] at h; simp only [cond_true, cond_false, Bool.and_eq_true, beq_iff_eq] at h
          exact .inr (.inr (.inr ⟨h4, h⟩))
        · have e4 : (m.Kind == 4) = false := by simp [h4]
          rw [e4] at h; simp only [cond_false] at h
          cases h
/-- Numbers that have a sign, one behind the other. -/
def svs (l : List Int) : Str := (l.map fun x => vi (zz x)).flatten
theorem svs_succ {l : List Int} {k : Nat} (h : k < l.length) : svs (l.take (k + 1)) = svs (l.take k) ++ vi (zz l[k]) := by
  unfold svs; rw [List.take_add_one, List.getElem?_eq_getElem h, List.map_append, List.flatten_append]
  show _ ++ (List.map _ [l[k]]).flatten = _
  simp only [List.map_cons, List.map_nil, List.flatten_cons, List.flatten_nil, List.append_nil]
theorem svs_len : ∀ {l : List Int}, (∀ x ∈ l, i64 x) → (svs l).length ≤ 10 * l.length
  | [], _ => by simp [svs]
  | a :: l, h => by
    have h1 := vi_len64 (zz_lt (h a (by simp)))
    have h2 := svs_len (l := l) fun x hx => h x (by simp [hx])
    unfold svs at *; simp at *; omega
theorem dws_loop {n : Nat} {l : List Int} {B : Str} (hl : ∀ x ∈ l, i64 x) (h4 : l.length ≤ 100) (hB : B.length ≤ 100000) (hn : 1000 < n) :
    loopD (ε := Int × Str) (τ := Str) (fun (((x6, l2)) : Int × Str) => (bif (decide (x6 < (l.length : Int))) then ((gi l x6).bind fun n1 => (dwire_writer_signed n (twirewriter.mk l2) n1).bind fun x8 => some (Sum.inl (W (x6 + 1), x8.Out))) else some (Sum.inr l2))) n (0, B) = some (B ++ svs l) := by
  have hc : ∀ k : Nat, k ≤ 1000000 → k ≤ capN := fun k hk => Nat.le_trans hk (by decide)
  rw [show ((0 : Int), B) = (((0 : Nat) : Int), B ++ svs (l.take 0)) from by simp [svs]]
  refine loopD_traj (fun k => ((k : Int), B ++ svs (l.take k))) l.length (e := B ++ svs l) (fun k hk => ?_) ?_ n (by omega)
  · have hd : decide ((k : Int) < (l.length : Int)) = true := by simpa using hk
    have hA := svs_len (l := l.take k) fun x hx => hl x (List.mem_of_mem_take hx)
    have hA2 : (svs (l.take k)).length ≤ 1000 := by rw [List.length_take] at hA; omega
    simp only [hd, cond_true, gi_lt hk, Option.bind_some, dwsigned (n := n) (out := B ++ svs (l.take k)) (hl _ (List.getElem_mem hk)) (hc _ (by simp; omega)) (by omega), W_suc (show k + 1 < 9223372036854775808 by omega), svs_succ hk, List.append_assoc]
  · have hd : decide ((l.length : Int) < (l.length : Int)) = false := by simp
    simp only [hd, cond_false, List.take_length]
theorem dPutNo {n : Nat} {m : tMsg} (hl : m.Event.Attrs.length ≤ maxLen) (hn : m.Event.Attrs.length < n) (h : msgB m = false) : dwire_Put n m = some ([], some 1) := by
  unfold dwire_Put; rw [dMay m hl hn, h]; rfl
theorem nat_lt {z : Int} (h : 0 ≤ z ∧ z ≤ 2147483647) : z.toNat < 18446744073709551616 := by omega
theorem dPut {n : Nat} {m : tMsg} (hi : MsgI m) (hl : m.Event.Attrs.length ≤ maxLen) (hn : m.Event.Attrs.length < n) (hn2 : 1000 < n) (h : msgB m = true) : dwire_Put n m = some (mws m, none) := by
  have hc : ∀ k : Nat, k ≤ 1000000 → k ≤ capN := fun k hk => Nat.le_trans hk (by decide)
  obtain ⟨hs, hv, hh, hf⟩ := msgB_few h
  have l1 := vi_len64 (nat_lt hs)
  have l2 := vi_len64 (nat_lt hv)
  have l3 := vi_len64 (nat_lt hh)
  have w1 := wnat hs.1 (by omega)
  have w2 := wnat hv.1 (by omega)
  have w3 := wnat hh.1 (by omega)
  unfold dwire_Put
  rw [dMay m hl hn, h]
  simp only [Bool.not_true, cond_false, Option.bind_some]
  have hnum : ∀ k : Nat, 1 ≤ k → k ≤ 4 → m.Kind = k → dwire_writer_number n ⟨[]⟩ (IntKind.wrap .u64 m.Kind) = some ⟨[UInt8.ofNat m.Kind.toNat]⟩ := fun k h1 h2 h3 => by
    rw [h3, wrap_u64 (by omega), dwnum (by omega) (by decide) (by omega), vi_lt (by omega)]; rfl
  unfold mws
  rcases msgB_kind h with ⟨hk, hr, he⟩ | ⟨hk, hb, he⟩ | ⟨hk, hb, h1, h2, he⟩ | ⟨hk, hb, h1, he⟩
  · rw [hnum 1 (by decide) (by decide) hk]
    have e1 : (m.Kind == 1) = true := by simp [hk]
    rw [if_pos hk]
    simp only [e1, cond_true, Option.bind_some, w1, w2, w3]
    rw [dwnum (nat_lt hs) (hc _ (by simp)) (by omega), Option.bind_some, dwnum (nat_lt hv) (hc _ (by simp; omega)) (by omega), Option.bind_some, dwnum (nat_lt hh) (hc _ (by simp; omega)) (by omega), Option.bind_some]
    have hR : ∀ x ∈ [m.Rect.X1, m.Rect.Y1, m.Rect.X2, m.Rect.Y2], i64 x := by
      intro x hx
      simp only [List.mem_cons, List.not_mem_nil, or_false] at hx
      rcases hx with rfl | rfl | rfl | rfl
      · exact hi.x1
      · exact hi.y1
      · exact hi.x2
      · exact hi.y2
    have hlen := svs_len hR
    have hlp := dws_loop (n := n) (l := [m.Rect.X1, m.Rect.Y1, m.Rect.X2, m.Rect.Y2]) (B := [UInt8.ofNat m.Kind.toNat] ++ vi m.Sub.toNat ++ vi m.Version.toNat ++ vi m.Home.toNat) hR (show 4 ≤ 100 by decide) (by simp; omega) hn2
    simp only [List.length_cons, List.length_nil] at hlp hlen
    have hlp' := congrArg (fun o => Option.bind o fun (l4 : Str) => (dwire_writer_text n (twirewriter.mk l4) m.Filter).bind fun x9 => some x9.Out) hlp
    refine (congrArg (fun o => Option.bind o _) hlp').trans ?_
    simp only [Option.bind_some]
    rw [dwtext (by omega) (hc _ (by simp; omega)) (by omega)]
    simp only [Option.bind_some, svs, List.map_cons, List.map_nil, List.flatten_cons, List.flatten_nil, List.append_nil, List.append_assoc, List.cons_append, List.nil_append]
  · rw [hnum 2 (by decide) (by decide) hk]
    have e1 : (m.Kind == 1) = false := by simp [hk]
    have e2 : (m.Kind == 2) = true := by simp [hk]
    rw [if_neg (by omega), if_pos hk]
    simp only [e1, e2, cond_true, cond_false, Option.bind_some, w1, w2]
    rw [dwnum (nat_lt hs) (hc _ (by simp)) (by omega), Option.bind_some, dwnum (nat_lt hv) (hc _ (by simp; omega)) (by omega), Option.bind_some]
    simp
  · rw [hnum 3 (by decide) (by decide) hk]
    have e1 : (m.Kind == 1) = false := by simp [hk]
    have e2 : (m.Kind == 2) = false := by simp [hk]
    have e4 : (m.Kind == 4) = false := by simp [hk]
    rw [if_neg (by omega), if_neg (by omega), if_neg (by omega)]
    simp only [e1, e2, e4, cond_true, cond_false, Option.bind_some]
    rw [dwevent (evOk_of hi he) (by simp) hn2]
    simp
  · rw [hnum 4 (by decide) (by decide) hk]
    have e1 : (m.Kind == 1) = false := by simp [hk]
    have e2 : (m.Kind == 2) = false := by simp [hk]
    have e4 : (m.Kind == 4) = true := by simp [hk]
    rw [if_neg (by omega), if_neg (by omega), if_pos hk]
    simp only [e1, e2, e4, cond_true, cond_false, Option.bind_some, w1]
    rw [dwnum (nat_lt hs) (hc _ (by simp)) (by omega), Option.bind_some, dwevent (evOk_of hi he) (by simp; omega) hn2]
    simp
theorem drPut {n : Nat} {m : tMsg} (hi : MsgI m) (hn2 : 1000 < n) (h : msgB m = true) : dref10_Put n m = some (mws m) := by
  have hc : ∀ k : Nat, k ≤ 1000000 → k ≤ capN := fun k hk => Nat.le_trans hk (by decide)
  obtain ⟨hs, hv, hh, hf⟩ := msgB_few h
  have l1 := vi_len64 (nat_lt hs)
  have l2 := vi_len64 (nat_lt hv)
  have l3 := vi_len64 (nat_lt hh)
  have w1 := wnat hs.1 (by omega)
  have w2 := wnat hv.1 (by omega)
  have w3 := wnat hh.1 (by omega)
  unfold dref10_Put
  have hnum : ∀ k : Nat, 1 ≤ k → k ≤ 4 → m.Kind = k → u8 (IntKind.wrap .u8 m.Kind) = UInt8.ofNat m.Kind.toNat := fun k h1 h2 h3 => by
    rw [h3, u8_nat (by omega)]; rfl
  unfold mws
  rcases msgB_kind h with ⟨hk, hr, he⟩ | ⟨hk, hb, he⟩ | ⟨hk, hb, h1, h2, he⟩ | ⟨hk, hb, h1, he⟩
  · rw [hnum 1 (by decide) (by decide) hk]
    have e1 : (m.Kind == 1) = true := by simp [hk]
    have k1 := vi_len64 (zz_lt hi.x1)
    have k2 := vi_len64 (zz_lt hi.y1)
    have k3 := vi_len64 (zz_lt hi.x2)
    have k4 := vi_len64 (zz_lt hi.y2)
    rw [if_pos hk]
    simp only [e1, cond_true, Option.bind_some, w1, w2, w3]
    rw [drnum (nat_lt hs) (hc _ (by simp)) (by omega), Option.bind_some, drnum (nat_lt hv) (hc _ (by simp; omega)) (by omega), Option.bind_some, drnum (nat_lt hh) (hc _ (by simp; omega)) (by omega), Option.bind_some,
      drsigned hi.x1 (hc _ (by simp; omega)) (by omega), Option.bind_some, drsigned hi.y1 (hc _ (by simp; omega)) (by omega), Option.bind_some, drsigned hi.x2 (hc _ (by simp; omega)) (by omega), Option.bind_some, drsigned hi.y2 (hc _ (by simp; omega)) (by omega), Option.bind_some,
      drtext (by omega) (hc _ (by simp; omega)) (by omega)]
    simp
  · rw [hnum 2 (by decide) (by decide) hk]
    have e1 : (m.Kind == 1) = false := by simp [hk]
    have e2 : (m.Kind == 2) = true := by simp [hk]
    rw [if_neg (by omega), if_pos hk]
    simp only [e1, e2, cond_true, cond_false, Option.bind_some, w1, w2]
    rw [drnum (nat_lt hs) (hc _ (by simp)) (by omega), Option.bind_some, drnum (nat_lt hv) (hc _ (by simp; omega)) (by omega), Option.bind_some]
    simp
  · rw [hnum 3 (by decide) (by decide) hk]
    have e1 : (m.Kind == 1) = false := by simp [hk]
    have e2 : (m.Kind == 2) = false := by simp [hk]
    have e4 : (m.Kind == 4) = false := by simp [hk]
    rw [if_neg (by omega), if_neg (by omega), if_neg (by omega)]
    simp only [e1, e2, e4, cond_true, cond_false, Option.bind_some]
    rw [drbytes (evOk_of hi he) (by simp) hn2]
    simp
  · rw [hnum 4 (by decide) (by decide) hk]
    have e1 : (m.Kind == 1) = false := by simp [hk]
    have e2 : (m.Kind == 2) = false := by simp [hk]
    have e4 : (m.Kind == 4) = true := by simp [hk]
    rw [if_neg (by omega), if_neg (by omega), if_pos hk]
    simp only [e1, e2, e4, cond_true, cond_false, Option.bind_some, w1]
    rw [drnum (nat_lt hs) (hc _ (by simp)) (by omega), Option.bind_some, drbytes (evOk_of hi he) (by simp; omega) hn2]
    simp
end Go.Proofs.Ytaekecbadkcggaa
