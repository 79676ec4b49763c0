/- Plain functions, and walks, printed by a program of this session's. -/
import Derived.Test.YtngeejjllgnpcaaPwE
import Derived.Test.YtngeejjllgnpcaaPvT
import Derived.Test.YtngeejjllgnpcaaS05
import Derived.Test.YtngeejjllgnpcaaS04d
import Derived.Test.YtngeejjllgnpcaaDS64
namespace Go.Proofs.Ytngeejjllgnpcaa
open Go.Pv
set_option maxRecDepth 100000
set_option maxHeartbeats 4000000
set_option linter.unusedSimpArgs false
set_option linter.unusedVariables false
set_option linter.unusedSectionVars false

structure tRect where
  X1 : Int
  Y1 : Int
  X2 : Int
  Y2 : Int
def c_tRect (x : tRect) : List AV := [.int .i64 x.X1, .int .i64 x.Y1, .int .i64 x.X2, .int .i64 x.Y2]
structure tPoint where
  X : Int
  Y : Int
def c_tPoint (x : tPoint) : List AV := [.int .i64 x.X, .int .i64 x.Y]
def ok_tRect (x : tRect) : Prop := Go.Pv.okI .i64 x.X1 ∧ Go.Pv.okI .i64 x.Y1 ∧ Go.Pv.okI .i64 x.X2 ∧ Go.Pv.okI .i64 x.Y2
theorem dat_tRect {n : Nat} {cs : List AV} (h : Dat Try.prog n 38 cs) : ∃ a : tRect, cs = c_tRect a ∧ ok_tRect a := by
  obtain ⟨m, rfl, h⟩ := dat_struct (i := Try.i38) rfl rfl h
  obtain ⟨a0, r0, rfl, _, h0, h⟩ := h
  obtain ⟨a1, r1, rfl, _, h1, h⟩ := h
  obtain ⟨a2, r2, rfl, _, h2, h⟩ := h
  obtain ⟨a3, r3, rfl, _, h3, h⟩ := h
  obtain rfl : r3 = [] := h
  obtain ⟨x0, rfl, k0⟩ := dat_Int (i := Try.i2) rfl rfl h0
  obtain ⟨x1, rfl, k1⟩ := dat_Int (i := Try.i2) rfl rfl h1
  obtain ⟨x2, rfl, k2⟩ := dat_Int (i := Try.i2) rfl rfl h2
  obtain ⟨x3, rfl, k3⟩ := dat_Int (i := Try.i2) rfl rfl h3
  exact ⟨⟨x0, x1, x2, x3⟩, rfl, k0, k1, k2, k3⟩
theorem datV_tRect {x : AV} (h : DatV Try.prog 38 x) : ∃ a : tRect, x = .agg (c_tRect a) ∧ ok_tRect a := by
  obtain ⟨n, cs, rfl, h2⟩ := datV_s (i := Try.i38) rfl rfl h
  obtain ⟨a, rfl, k⟩ := dat_tRect h2
  exact ⟨a, rfl, k⟩
def ok_tPoint (x : tPoint) : Prop := Go.Pv.okI .i64 x.X ∧ Go.Pv.okI .i64 x.Y
theorem dat_tPoint {n : Nat} {cs : List AV} (h : Dat Try.prog n 24 cs) : ∃ a : tPoint, cs = c_tPoint a ∧ ok_tPoint a := by
  obtain ⟨m, rfl, h⟩ := dat_struct (i := Try.i24) rfl rfl h
  obtain ⟨a0, r0, rfl, _, h0, h⟩ := h
  obtain ⟨a1, r1, rfl, _, h1, h⟩ := h
  obtain rfl : r1 = [] := h
  obtain ⟨x0, rfl, k0⟩ := dat_Int (i := Try.i2) rfl rfl h0
  obtain ⟨x1, rfl, k1⟩ := dat_Int (i := Try.i2) rfl rfl h1
  exact ⟨⟨x0, x1⟩, rfl, k0, k1⟩
theorem datV_tPoint {x : AV} (h : DatV Try.prog 24 x) : ∃ a : tPoint, x = .agg (c_tPoint a) ∧ ok_tPoint a := by
  obtain ⟨n, cs, rfl, h2⟩ := datV_s (i := Try.i24) rfl rfl h
  obtain ⟨a, rfl, k⟩ := dat_tPoint h2
  exact ⟨a, rfl, k⟩
def rT (r : Int × Int × Int × Int) : tRect := ⟨r.1, r.2.1, r.2.2.1, r.2.2.2⟩
def mayT (r : tRect) : Bool := mayR r.X1 r.Y1 r.X2 r.Y2
def spT (s : Int) (r : tRect) : tRect := ⟨cel s r.X1, cel s r.Y1, cel s r.X2, cel s r.Y2⟩
def cvT (s : Int) (r : tRect) : tRect := rT (cvV s r.X1 r.Y1 r.X2 r.Y2)
def eO (b : Bool) (r : tRect) : tRect × Er := bif b then (r, none) else (⟨0, 0, 0, 0⟩, some 1)
theorem boxO_av (b : Bool) (x : Int × Int × Int × Int) : boxO b x = .tup ([.agg (c_tRect (eO b (rT x)).1)] ++ [errK 35 (eO b (rT x)).2]) := by cases b <;> rfl
def dcover_span (fu : Nat) (s : Int) (r : tRect) : Option (tRect × Er) := some (eO (mayT r && mayS s) (spT s r))
theorem dcover_span_l {fu : Nat} {s : Int} {r : tRect} {o : tRect × Er} (h : dcover_span fu s r = some o) : PCall Try.prog 84 [.int .i64 s, .agg (c_tRect r)] (· = .tup [.agg (c_tRect o.1), .err 35 o.2]) := by
  cases h
  have := span_c (s := s) (a := r.X1) (b := r.Y1) (c := r.X2) (d := r.Y2) rfl rfl
  rw [boxO_av] at this
  exact pcall_errs this
def dcover_Box (fu : Nat) (s : Int) (r : tRect) : Option (tRect × Er) := some (eO (mayT r && mayS s) (cvT s r))
theorem dcover_Box_l {fu : Nat} {s : Int} {r : tRect} {o : tRect × Er} (h : dcover_Box fu s r = some o) : PCall Try.prog 51 [.int .i64 s, .agg (c_tRect r)] (· = .tup [.agg (c_tRect o.1), .err 35 o.2]) := by
  cases h
  have := cbox_c (s := s) (a := r.X1) (b := r.Y1) (c := r.X2) (d := r.Y2) rfl rfl
  rw [boxO_av] at this
  exact pcall_errs this
def cdO (b : Bool) (n : Nat) : Int × Er := bif b then (0, some 1) else ((n : Int), none)
def dmorton_Code (fu : Nat) (c r : Int) : Option (Int × Er) := some (cdO (cfar c || cfar r) (codN c.toNat r.toNat))
theorem dmorton_Code_l {fu : Nat} {c r : Int} {o : Int × Er} (h : dmorton_Code fu c r = some o) : PCall Try.prog 56 [.int .i64 c, .int .i64 r] (· = .tup [.int .u64 o.1, .err 35 o.2]) := by
  cases h
  cases hb : (cfar c || cfar r) with
  | true => exact pcall_errs (xs := [.int .u64 0]) (e := some 1) (code_no hb)
  | false =>
    simp only [Bool.or_eq_false_iff, cfar, decide_eq_false_iff_not] at hb
    obtain ⟨c, rfl⟩ := Int.eq_ofNat_of_zero_le (a := c) (by omega)
    obtain ⟨r, rfl⟩ := Int.eq_ofNat_of_zero_le (a := r) (by omega)
    exact pcall_errs (xs := [.int .u64 ((codN c r : Nat) : Int)]) (e := none) (code_ok (by omega) (by omega))
def clO (a b : Bool) (u v : Int) : Int × Int × Er := bif a then (bif b then (u, v, none) else (0, 0, some 11)) else (0, 0, some 1)
def dmorton_Cell (fu : Nat) (s : Int) (p : tPoint) : Option (Int × Int × Er) := some (clO (mayS s) (mayP p.X p.Y) (cel s p.X) (cel s p.Y))
theorem dmorton_Cell_l {fu : Nat} {s : Int} {p : tPoint} {o : Int × Int × Er} (h : dmorton_Cell fu s p = some o) : PCall Try.prog 55 [.int .i64 s, .agg (c_tPoint p)] (· = .tup [.int .i64 o.1, .int .i64 o.2.1, .err 35 o.2.2]) := by
  cases h
  have hc := cell_cb (s := s) (x := p.X) (y := p.Y) rfl rfl
  revert hc
  cases mayS s <;> cases mayP p.X p.Y <;> intro hc
  · exact pcall_errs (xs := [.int .i64 0, .int .i64 0]) (e := some 1) hc
  · exact pcall_errs (xs := [.int .i64 0, .int .i64 0]) (e := some 1) hc
  · exact pcall_errs (xs := [.int .i64 0, .int .i64 0]) (e := some 11) hc
  · exact pcall_errs (xs := [.int .i64 (cel s p.X), .int .i64 (cel s p.Y)]) (e := none) hc
def dmorton_Side (fu : Nat) (s : Int) : Option Int := some (sideV s)
theorem dmorton_Side_l {fu : Nat} {s o : Int} (h : dmorton_Side fu s = some o) : PCall Try.prog 109 [.int .i64 s] (· = .int .i64 o) := by cases h; exact side_c
def dref01_Shift (fu : Nat) (s : Int) : Option Bool := some (mayS s)
theorem dref01_Shift_l {fu : Nat} {s : Int} {o : Bool} (h : dref01_Shift fu s = some o) : PCall Try.prog 43 [.int .i64 s] (· = .bool o) := by cases h; exact shift_c
def dref01_Rect (fu : Nat) (r : tRect) : Option Bool := some (mayT r)
theorem dref01_Rect_l {fu : Nat} {r : tRect} {o : Bool} (h : dref01_Rect fu r = some o) : PCall Try.prog 49 [.agg (c_tRect r)] (· = .bool o) := by cases h; exact rRect_c
def dref01_May (fu : Nat) (p : tPoint) : Option Bool := some (mayP p.X p.Y)
theorem dref01_May_l {fu : Nat} {p : tPoint} {o : Bool} (h : dref01_May fu p = some o) : PCall Try.prog 18 [.agg (c_tPoint p)] (· = .bool o) := by cases h; exact rmayP_c
def inT (r : tRect) (p : tPoint) : Bool := inR r.X1 r.Y1 r.X2 r.Y2 p.X p.Y
def dref01_In (fu : Nat) (r : tRect) (p : tPoint) : Option Bool := some (inT r p)
theorem dref01_In_l {fu : Nat} {r : tRect} {p : tPoint} {o : Bool} (h : dref01_In fu r p = some o) : PCall Try.prog 26 [.agg (c_tRect r), .agg (c_tPoint p)] (· = .bool o) := by cases h; exact rIn_c
def hoT (r q : tRect) : Bool := inR r.X1 r.Y1 r.X2 r.Y2 q.X1 q.Y1 && inR r.X1 r.Y1 r.X2 r.Y2 q.X2 q.Y2
def dref01_Holds (fu : Nat) (r q : tRect) : Option Bool := some (hoT r q)
theorem dref01_Holds_l {fu : Nat} {r q : tRect} {o : Bool} (h : dref01_Holds fu r q = some o) : PCall Try.prog 47 [.agg (c_tRect r), .agg (c_tRect q)] (· = .bool o) := by cases h; exact rHolds_c
def dref01_Cell (fu : Nat) (s x : Int) : Option Int := bif mayS s && !far x then some (cel s x) else none
theorem bd_far {x : Int} (h : far x = false) : Bd x := by simp [far] at h; unfold Bd; omega
theorem dref01_Cell_l {fu : Nat} {s x o : Int} (h : dref01_Cell fu s x = some o) : PCall Try.prog 88 [.int .i64 s, .int .i64 x] (· = .int .i64 o) := by
  unfold dref01_Cell at h
  cases h1 : mayS s <;> cases h2 : far x <;> rw [h1, h2] at h <;> first | (cases h; done) | skip
  cases h
  obtain ⟨k, rfl, hk⟩ := may_k h1
  exact rcell_c hk (bd_far h2)
def dref01_Code (fu : Nat) (c r : Int) : Option Int := bif cfar c || cfar r then none else some (codN c.toNat r.toNat : Nat)
theorem dref01_Code_l {fu : Nat} {c r o : Int} (h : dref01_Code fu c r = some o) : PCall Try.prog 89 [.int .i64 c, .int .i64 r] (· = .int .u64 o) := by
  unfold dref01_Code at h
  cases hb : (cfar c || cfar r) with
  | true => rw [hb] at h; cases h
  | false =>
    rw [hb] at h; cases h
    simp only [Bool.or_eq_false_iff, cfar, decide_eq_false_iff_not] at hb
    obtain ⟨c, rfl⟩ := Int.eq_ofNat_of_zero_le (a := c) (by omega)
    obtain ⟨r, rfl⟩ := Int.eq_ofNat_of_zero_le (a := r) (by omega)
    exact code_in (by omega) (by omega)
def dref01_Cover (fu : Nat) (s : Int) (r : tRect) : Option tRect := bif mayS s && mayT r then some (cvT s r) else none
theorem dref01_Cover_l {fu : Nat} {s : Int} {r o : tRect} (h : dref01_Cover fu s r = some o) : PCall Try.prog 54 [.int .i64 s, .agg (c_tRect r)] (· = .agg (c_tRect o)) := by
  unfold dref01_Cover at h
  cases h1 : mayS s <;> cases h2 : mayT r <;> rw [h1, h2] at h <;> first | (cases h; done) | skip
  cases h
  obtain ⟨k, rfl, hk⟩ := may_k h1
  exact rcover_c hk h1 h2
def dref01_Side (fu : Nat) (s : Int) : Option Int := bif mayS s then some (sideV s) else none
theorem dref01_Side_l {fu : Nat} {s o : Int} (h : dref01_Side fu s = some o) : PCall Try.prog 113 [.int .i64 s] (· = .int .i64 o) := by
  unfold dref01_Side at h
  cases h1 : mayS s <;> rw [h1] at h <;> cases h
  obtain ⟨k, rfl, hk⟩ := may_k h1
  exact rside_c hk

/-- `plover/cover.Cells` -/
def dcover_Cells (fu : Nat) (s1 : Int) (r1 : tRect) : Option ((List Int) × Er) :=
  (dcover_span fu s1 r1).bind fun err1 => bif err1.2.isSome then some ([], err1.2) else ((loopD (ε := Int × (List Int)) (τ := (List Int) ⊕ ((List Int) × Er)) (fun (((column1, out1)) : Int × (List Int)) => (bif (decide (column1 ≤ err1.1.X2)) then ((loopD (ε := Int × (List Int)) (τ := (List Int) ⊕ ((Int × (List Int)) ⊕ ((List Int) ⊕ ((List Int) × Er)))) (fun (((row1, out4)) : Int × (List Int)) => (bif (decide (row1 ≤ err1.1.Y2)) then ((dmorton_Code fu column1 row1).bind fun code1 => bif code1.2.isSome then some (Sum.inr (Sum.inr (Sum.inr (Sum.inr ([], code1.2))))) else ((ap out4 [code1.1]).bind fun out7 => some (Sum.inl (W (row1 + 1), out7)))) else some (Sum.inr (Sum.inl out4)))) fu (err1.1.Y1, out1)).bind fun o => kS o fun (out6 : List Int) => some (Sum.inl (W (column1 + 1), out6))) else some (Sum.inr (Sum.inl out1)))) fu (err1.1.X1, [])).bind fun o => kS o fun (out3 : List Int) => ((dslices_Sort_uint64 fu out3).bind fun x1 => some (x1, none)))
section
attribute [local irreducible] awp aops DP PCall ACall Decidable.decide
theorem dcover_Cells_l {fu : Nat} {s1 : Int} {r1 : tRect} {r : (List Int) × Er} (h : dcover_Cells fu s1 r1 = some r) : PCall Try.prog 50 [.int .i64 s1, .agg [.int .i64 r1.X1, .int .i64 r1.Y1, .int .i64 r1.X2, .int .i64 r1.Y2]] (· = .tup [.sl (r.1.map (cI .u64)), .err 35 r.2]) := by
  rw [dcover_Cells] at h
  refine pcall_body Try.func50 rfl (by kernel_rfl) (by rfl) ?_
  refine awp_seq ?_
  refine awp_region ?_
  refine rb rfl rfl ?_
  refine rvs 2 rfl ?_
  refine rn ?_
  refine awp_seq ?_
  refine awp_region ?_
  refine rvs 2 rfl ?_
  obtain ⟨err1, hx1, h⟩ := bi h
  refine rc1 rfl rfl rfl (dcover_span_l hx1) ?_
  refine rvs 3 rfl ?_
  refine ra rfl rfl rfl ?_
  refine rs rfl rfl rfl rfl rfl rfl rfl ?_
  refine rv rfl rfl ?_
  refine rn ?_
  refine awp_seq ?_
  refine awp_seq ?_
  refine awp_region ?_
  refine rv rfl rfl ?_
  refine rV rfl (va_ennil rfl rfl rfl) ?_
  refine rn ?_
  refine cs_ rfl (fun hc => ?_) (fun hc => ?_)
  · have h := cT hc h
    refine awp_seq ?_
    refine awp_region ?_
    refine rvs 3 rfl ?_
    refine rn ?_
    refine awp_ret ?_
    cases h
    repeat (first | refine then_ret ?_ | refine inBlock_ret ?_ | refine cut_r ?_)
    exact rr rfl rfl rfl
  · have h := cF hc h
    refine awp_skip ?_
    refine awp_seq ?_
    refine awp_region ?_
    refine rv rfl rfl ?_
    refine rn ?_
    refine awp_seq ?_
    refine awp_seq ?_
    refine awp_region ?_
    refine rvs 3 rfl ?_
    refine rn ?_
    refine awp_conv (fun _ _ _ _ _ hi => nilS_slot true 1 8 rfl hi) ?_
    obtain ⟨e2, hl3, h⟩ := bi h
    refine awp_cut1 (fun x => Sum.inl x = e2) (fun (out3 : List Int) => ⟨[(8, .own 0)], [], [(0, .wr 1 (out3.map (cI .u64)))], 1⟩) ?_ ?_
    · refine awp_block ?_
      refine awp_loopD hl3 (fun (((column1, out1)) : Int × (List Int)) => ⟨[(6, .ptr 0 0), (8, .own 1), (9, .int .i64 column1)], [(0, 0, .int .i64 err1.1.X1), (0, 1, .int .i64 err1.1.Y1), (0, 2, .int .i64 err1.1.X2), (0, 3, .int .i64 err1.1.Y2)], [(1, .wr 1 (out1.map (cI .u64)))], 2⟩) [1, 2] rfl ⟨rfl, rfl, zA rfl rfl rfl (zA rfl rfl rfl (zA rfl rfl rfl (trivial))), zC rfl rfl rfl rfl (zC rfl rfl rfl rfl (zC rfl rfl rfl rfl (zC rfl rfl rfl rfl (trivial)))), zE rfl (.wr (lmM (fun _ => rfl) _)) rfl (trivial)⟩ ?_
      intro v o6 ho4 hE5
      obtain ⟨column1, out1⟩ := v
      change awp _ _ _ _ _ ⟨_, _, _, _⟩
      refine awp_seq ?_
      refine awp_seq ?_
      refine awp_region ?_
      refine rvs 4 rfl ?_
      refine rn ?_
      refine cs_ rfl (fun hc => ?_) (fun hc => ?_)
      · have ho4 := cT hc ho4
        refine awp_skip ?_
        refine awp_seq ?_
        refine awp_block ?_
        refine awp_seq ?_
        refine awp_region ?_
        refine rvs 3 rfl ?_
        refine rn ?_
        obtain ⟨e7, hl8, ho4⟩ := bi ho4
        refine awp_cut1 (fun x => Sum.inl x = e7) (fun (out6 : List Int) => ⟨[(6, .ptr 0 0), (8, .own 1), (9, .int .i64 column1)], [(0, 0, .int .i64 err1.1.X1), (0, 1, .int .i64 err1.1.Y1), (0, 2, .int .i64 err1.1.X2), (0, 3, .int .i64 err1.1.Y2)], [(1, .wr 1 (out6.map (cI .u64)))], 2⟩) ?_ ?_
        · refine awp_block ?_
          refine awp_loopD hl8 (fun (((row1, out4)) : Int × (List Int)) => ⟨[(6, .ptr 0 0), (8, .own 1), (9, .int .i64 column1), (10, .int .i64 row1)], [(0, 0, .int .i64 err1.1.X1), (0, 1, .int .i64 err1.1.Y1), (0, 2, .int .i64 err1.1.X2), (0, 3, .int .i64 err1.1.Y2)], [(1, .wr 1 (out4.map (cI .u64)))], 2⟩) [0, 1] rfl ⟨rfl, rfl, zA rfl rfl rfl (zA rfl rfl rfl (zA rfl rfl rfl (zA rfl rfl rfl (trivial)))), zC rfl rfl rfl rfl (zC rfl rfl rfl rfl (zC rfl rfl rfl rfl (zC rfl rfl rfl rfl (trivial)))), zE rfl (.wr (lmM (fun _ => rfl) _)) rfl (trivial)⟩ ?_
          intro v o11 ho9 hE10
          obtain ⟨row1, out4⟩ := v
          change awp _ _ _ _ _ ⟨_, _, _, _⟩
          refine awp_seq ?_
          refine awp_seq ?_
          refine awp_region ?_
          refine rvs 4 rfl ?_
          refine rn ?_
          refine cs_ rfl (fun hc => ?_) (fun hc => ?_)
          · have ho9 := cT hc ho9
            refine awp_skip ?_
            refine awp_seq ?_
            refine awp_block ?_
            refine awp_seq ?_
            refine awp_region ?_
            refine rvs 2 rfl ?_
            obtain ⟨code1, hx12, ho9⟩ := bi ho9
            refine rc1 rfl rfl rfl (dmorton_Code_l hx12) ?_
            refine rvs 5 rfl ?_
            refine rn ?_
            refine awp_seq ?_
            refine awp_seq ?_
            refine awp_region ?_
            refine rv rfl rfl ?_
            refine rV rfl (va_ennil rfl rfl rfl) ?_
            refine rn ?_
            refine cs_ rfl (fun hc => ?_) (fun hc => ?_)
            · have ho9 := cT hc ho9
              refine awp_seq ?_
              refine awp_region ?_
              refine rvs 3 rfl ?_
              refine rn ?_
              refine awp_ret ?_
              cases ho9
              have hq := hE10 _ rfl
              subst hq
              have ho4 := ksr ho4
              subst ho4
              have hq := hE5 _ rfl
              subst hq
              have h := ksr h
              subst h
              repeat (first | refine then_ret ?_ | refine inBlock_ret ?_ | refine cut_r ?_)
              exact rr rfl rfl rfl
            · have ho9 := cF hc ho9
              refine awp_skip ?_
              refine awp_region ?_
              refine rvs 2 rfl ?_
              refine rbs false rfl rfl rfl rfl rfl rfl rfl rfl rfl rfl ?_
              obtain ⟨out7, hx13, ho9⟩ := bi ho9
              refine rap true (z := 1) (xs := out4.map (cI .u64)) (ys := [code1.1].map (cI .u64)) rfl rfl rfl rfl rfl rfl rfl (.own rfl rfl) (.sl rfl rfl rfl) (wM (fun _ => by rfl) _) (oM (fun _ => by rfl) _) (apB (cI .u64) rfl hx13) rfl ?_
              refine rk (congrArg (Kind.wr _) (apM (cI .u64) hx13)) ?_
              refine rv rfl rfl ?_
              refine rn ?_
              refine inBlock_normal ?_
              refine awp_region ?_
              refine rvs 3 rfl ?_
              refine rn ?_
              cases ho9
              exact lp_n [0, 3] rfl rfl ⟨rfl, rfl, zA rfl rfl rfl (zA rfl rfl rfl (zA rfl rfl rfl (zA rfl rfl rfl (trivial)))), zC rfl rfl rfl rfl (zC rfl rfl rfl rfl (zC rfl rfl rfl rfl (zC rfl rfl rfl rfl (trivial)))), zE rfl (.wr (lmM (fun _ => rfl) _)) rfl (trivial)⟩
          · have ho9 := cF hc ho9
            refine awp_exit ?_
            repeat (first | refine then_exit ?_ | refine cut_x ?_ | refine inBlock_other rfl ?_)
            refine inBlock_exit ?_
            cases ho9
            have hq := hE10 _ rfl
            subst hq
            exact cut_n [0, 1] rfl rfl ⟨rfl, rfl, zA rfl rfl rfl (zA rfl rfl rfl (zA rfl rfl rfl (trivial))), zC rfl rfl rfl rfl (zC rfl rfl rfl rfl (zC rfl rfl rfl rfl (zC rfl rfl rfl rfl (trivial)))), zE rfl (.wr (lmM (fun _ => rfl) _)) rfl (trivial)⟩
        · rintro out6 rfl
          have ho4 := ksl ho4
          change awp _ _ _ _ _ ⟨_, _, _, _⟩
          refine awp_region ?_
          refine rvs 3 rfl ?_
          refine rn ?_
          cases ho4
          exact lp_n [0, 1] rfl rfl ⟨rfl, rfl, zA rfl rfl rfl (zA rfl rfl rfl (zA rfl rfl rfl (trivial))), zC rfl rfl rfl rfl (zC rfl rfl rfl rfl (zC rfl rfl rfl rfl (zC rfl rfl rfl rfl (trivial)))), zE rfl (.wr (lmM (fun _ => rfl) _)) rfl (trivial)⟩
      · have ho4 := cF hc ho4
        refine awp_exit ?_
        repeat (first | refine then_exit ?_ | refine cut_x ?_ | refine inBlock_other rfl ?_)
        refine inBlock_exit ?_
        cases ho4
        have hq := hE5 _ rfl
        subst hq
        exact cut_n [1] rfl rfl ⟨rfl, rfl, zA rfl rfl rfl (trivial), trivial, zE rfl (.wr (lmM (fun _ => rfl) _)) rfl (trivial)⟩
    · rintro out3 rfl
      have h := ksl h
      change awp _ _ _ _ _ ⟨_, _, _, _⟩
      refine awp_seq ?_
      refine awp_region ?_
      refine rv rfl rfl ?_
      obtain ⟨x1, hx14, h⟩ := bi h
      refine rh [0] rfl rfl (dslices_Sort_uint64_l hx14) rfl rfl rfl (trivial) (zE rfl (.wr (lmM (fun _ => rfl) _)) rfl (trivial)) ?_
      refine ek ?_
      refine as1 rfl ?_
      refine ae rfl rfl rfl ?_
      refine rkO (wO (fun _ => rfl) (rfl)) ?_
      refine rn ?_
      refine awp_seq ?_
      refine awp_region ?_
      refine rvs 3 rfl ?_
      refine rn ?_
      refine awp_conv (fun _ _ _ _ _ hi => wr_still 0 rfl (lmM (fun _ => rfl) _) rfl hi) ?_
      refine awp_conv (fun _ _ _ _ _ hi => err_slot 35 5 none rfl hi) ?_
      refine awp_ret ?_
      cases h
      repeat (first | refine then_ret ?_ | refine inBlock_ret ?_ | refine cut_r ?_)
      exact rr rfl rfl rfl
end

/-- `plover/cover.Same` -/
def dcover_Same (fu : Nat) (s1 : Int) (a1 : tRect) (b1 : tRect) : Option Bool :=
  (dcover_span fu s1 a1).bind fun err1 => bif err1.2.isSome then some false else ((dcover_span fu s1 b1).bind fun err2 => bif err2.2.isNone then ((some ((err1.1.X1 == err2.1.X1) && ((err1.1.Y1 == err2.1.Y1) && ((err1.1.X2 == err2.1.X2) && ((err1.1.Y2 == err2.1.Y2) && true))))).bind fun x1 => some x1) else some false)
section
attribute [local irreducible] awp aops DP PCall ACall Decidable.decide
theorem dcover_Same_l {fu : Nat} {s1 : Int} {a1 : tRect} {b1 : tRect} {r : Bool} (h : dcover_Same fu s1 a1 b1 = some r) : PCall Try.prog 52 [.int .i64 s1, .agg [.int .i64 a1.X1, .int .i64 a1.Y1, .int .i64 a1.X2, .int .i64 a1.Y2], .agg [.int .i64 b1.X1, .int .i64 b1.Y1, .int .i64 b1.X2, .int .i64 b1.Y2]] (· = .bool r) := by
  rw [dcover_Same] at h
  refine pcall_body Try.func52 rfl (by kernel_rfl) (by rfl) ?_
  refine awp_seq ?_
  refine awp_region ?_
  refine rb rfl rfl ?_
  refine rb rfl rfl ?_
  refine rv rfl rfl ?_
  refine rn ?_
  refine awp_seq ?_
  refine awp_region ?_
  refine rvs 2 rfl ?_
  obtain ⟨err1, hx1, h⟩ := bi h
  refine rc1 rfl rfl rfl (dcover_span_l hx1) ?_
  refine rvs 3 rfl ?_
  refine ra rfl rfl rfl ?_
  refine rs rfl rfl rfl rfl rfl rfl rfl ?_
  refine rv rfl rfl ?_
  refine rn ?_
  refine awp_seq ?_
  refine awp_seq ?_
  refine awp_region ?_
  refine rv rfl rfl ?_
  refine rV rfl (va_ennil rfl rfl rfl) ?_
  refine rn ?_
  refine cs_ rfl (fun hc => ?_) (fun hc => ?_)
  · have h := cT hc h
    refine awp_seq ?_
    refine awp_region ?_
    refine rv rfl rfl ?_
    refine rn ?_
    refine awp_ret ?_
    cases h
    repeat (first | refine then_ret ?_ | refine inBlock_ret ?_ | refine cut_r ?_)
    exact rr rfl rfl rfl
  · have h := cF hc h
    refine awp_skip ?_
    refine awp_seq ?_
    refine awp_region ?_
    refine rvs 2 rfl ?_
    obtain ⟨err2, hx2, h⟩ := bi h
    refine rc1 rfl rfl rfl (dcover_span_l hx2) ?_
    refine rvs 3 rfl ?_
    refine ra rfl rfl rfl ?_
    refine rs rfl rfl rfl rfl rfl rfl rfl ?_
    refine rv rfl rfl ?_
    refine rn ?_
    refine awp_seq ?_
    refine awp_region ?_
    refine rv rfl rfl ?_
    refine rV rfl (va_enil rfl rfl rfl) ?_
    refine rv rfl rfl ?_
    refine gs rfl rfl rfl rfl rfl (fun hg => ?_) (fun hg => ?_)
    · have h := cT hg h
      refine rv rfl rfl ?_
      refine gy rfl rfl rfl ?_
      refine rv rfl rfl ?_
      refine gy rfl rfl rfl ?_
      refine rv rfl rfl ?_
      refine rvs 2 rfl ?_
      obtain ⟨x1, hx3, h⟩ := bs h
      refine rt (eb' hx3) ?_
      refine rn ?_
      refine awp_ret ?_
      cases h
      repeat (first | refine then_ret ?_ | refine inBlock_ret ?_ | refine cut_r ?_)
      exact rr rfl rfl rfl
    · have h := cF hg h
      refine gn rfl rfl rfl rfl rfl ?_
      refine gn rfl rfl rfl rfl rfl ?_
      refine rvs 2 rfl ?_
      refine rn ?_
      refine awp_ret ?_
      cases h
      repeat (first | refine then_ret ?_ | refine inBlock_ret ?_ | refine cut_r ?_)
      exact rr rfl rfl rfl
end

mutual
def dref01_Sorted : Nat → (List Int) → Option (List Int)
  | 0, _ => none
  | fu + 1, l1 => bif (decide ((l1.length : Int) < 2)) then some l1 else ((quoV .i64 (l1.length : Int) 2).bind fun q1 => (gsl l1 0 q1).bind fun l2 => (dref01_Sorted fu l2).bind fun a1 => (quoV .i64 (l1.length : Int) 2).bind fun q2 => (gsl l1 q2 (l1.length : Int)).bind fun l3 => (dref01_Sorted fu l3).bind fun b1 => (loopD (ε := (List Int) × (List Int) × (List Int)) (τ := (List Int) × (List Int) × (List Int)) (fun (((a2, b2, out1)) : (List Int) × (List Int) × (List Int)) => ((bif (decide ((a2.length : Int) > 0)) then some (decide ((b2.length : Int) > 0)) else some false : Option Bool).bind fun (x1 : Bool) => (bif x1 then ((gi a2 0).bind fun x2 => (gi b2 0).bind fun x3 => bif (decide (x2 ≤ x3)) then ((gi a2 0).bind fun out4 => (ap out1 [out4]).bind fun out5 => (gsl a2 1 (a2.length : Int)).bind fun l4 => some (Sum.inl (l4, b2, out5))) else ((gi b2 0).bind fun out6 => (ap out1 [out6]).bind fun out7 => (gsl b2 1 (b2.length : Int)).bind fun l5 => some (Sum.inl (a2, l5, out7)))) else some (Sum.inr (a2, b2, out1))))) fu (a1, b1, [])).bind fun (((a4, b4, out3)) : (List Int) × (List Int) × (List Int)) => ((ap out3 a4).bind fun x4 => (ap x4 b4).bind fun x5 => some x5))
end
section
attribute [local irreducible] awp aops DP PCall ACall Decidable.decide
/-- `plover/ploverref01.Sorted` -/
theorem dref01_Sorted_s {fu : Nat} (ih_dref01_Sorted : ∀ {l1} {r : List Int}, dref01_Sorted fu l1 = some r → PCall Try.prog 90 [.sl (l1.map (cI .u64))] (· = .sl (r.map (cI .u64)))) : ∀ {l1} {r : List Int}, dref01_Sorted (fu + 1) l1 = some r → PCall Try.prog 90 [.sl (l1.map (cI .u64))] (· = .sl (r.map (cI .u64))) := by
  intro l1 r h
  rw [dref01_Sorted] at h
  refine pcall_body Try.func90 rfl (by kernel_rfl) (by rfl) ?_
  refine awp_seq ?_
  refine awp_region ?_
  refine rv rfl rfl ?_
  refine rn ?_
  refine awp_seq ?_
  refine awp_seq ?_
  refine awp_region ?_
  refine rv rfl rfl ?_
  refine rv rfl rfl ?_
  refine rt ((lM (cI .u64) l1)) ?_
  refine rv rfl rfl ?_
  refine rn ?_
  refine cs_ rfl (fun hc => ?_) (fun hc => ?_)
  · have h := cT hc h
    refine awp_seq ?_
    refine awp_region ?_
    refine rvs 2 rfl ?_
    refine rn ?_
    refine awp_ret ?_
    cases h
    repeat (first | refine then_ret ?_ | refine inBlock_ret ?_ | refine cut_r ?_)
    exact rr rfl rfl rfl
  · have h := cF hc h
    refine awp_skip ?_
    refine awp_seq ?_
    refine awp_region ?_
    refine rvs 2 rfl ?_
    refine rv rfl rfl ?_
    refine rt ((lM (cI .u64) l1)) ?_
    obtain ⟨q1, hx1, h⟩ := bi h
    refine rV rfl (va_quo rfl rfl hx1) ?_
    obtain ⟨l2, hx2, h⟩ := bi h
    refine rV rfl (va_slsub (c := (cI .u64)) rfl rfl rfl rfl rfl ⟨_, rfl⟩ hx2 (fun _ => rfl)) ?_
    obtain ⟨a1, hx3, h⟩ := bi h
    refine rc1 rfl rfl rfl (ih_dref01_Sorted hx3) ?_
    refine rv rfl rfl ?_
    refine rn ?_
    refine awp_seq ?_
    refine awp_region ?_
    refine rvs 2 rfl ?_
    refine rv rfl rfl ?_
    refine rt ((lM (cI .u64) l1)) ?_
    obtain ⟨q2, hx4, h⟩ := bi h
    refine rV rfl (va_quo rfl rfl hx4) ?_
    obtain ⟨l3, hx5, h⟩ := bi h
    refine rV rfl (va_slsub (c := (cI .u64)) rfl rfl rfl rfl ⟨_, rfl⟩ rfl hx5 (fun _ => rfl)) ?_
    obtain ⟨b1, hx6, h⟩ := bi h
    refine rc1 rfl rfl rfl (ih_dref01_Sorted hx6) ?_
    refine rv rfl rfl ?_
    refine rn ?_
    refine awp_seq ?_
    refine awp_region ?_
    refine rv rfl rfl ?_
    refine rn ?_
    refine awp_seq ?_
    refine awp_conv (fun _ _ _ _ _ hi => nilS_slot false 1 5 rfl hi) ?_
    obtain ⟨e7, hl8, h⟩ := bi h
    refine awp_cut1 (fun x => x = e7) (fun (((a4, b4, out3)) : (List Int) × (List Int) × (List Int)) => ⟨[(3, .sl (a4.map (cI .u64))), (4, .sl (b4.map (cI .u64))), (5, .own 0)], [], [(0, .row 1 (out3.map (cI .u64)))], 1⟩) ?_ ?_
    · refine awp_block ?_
      refine awp_loopD hl8 (fun (((a2, b2, out1)) : (List Int) × (List Int) × (List Int)) => ⟨[(3, .sl (a2.map (cI .u64))), (4, .sl (b2.map (cI .u64))), (5, .own 0)], [], [(0, .row 1 (out1.map (cI .u64)))], 1⟩) [0] rfl ⟨rfl, rfl, zA rfl rfl rfl (zA rfl rfl rfl (zA rfl rfl rfl (trivial))), trivial, zE rfl .row rfl (trivial)⟩ ?_
      intro v o11 ho9 hE10
      obtain ⟨a2, b2, out1⟩ := v
      change awp _ _ _ _ _ ⟨_, _, _, _⟩
      refine awp_seq ?_
      refine awp_seq ?_
      obtain ⟨o12, ho13, ho9⟩ := bi ho9
      refine awp_cut1 (fun x => x = o12) (fun (x1 : Bool) => ⟨[(3, .sl (a2.map (cI .u64))), (4, .sl (b2.map (cI .u64))), (5, .own 0), (29, .bool x1)], [], [(0, .row 1 (out1.map (cI .u64)))], 1⟩) ?_ ?_
      · refine awp_region ?_
        refine rv rfl rfl ?_
        refine rv rfl rfl ?_
        refine rt ((lM (cI .u64) a2)) ?_
        refine rvs 2 rfl ?_
        refine gs rfl rfl rfl rfl rfl (fun hg => ?_) (fun hg => ?_)
        · have ho13 := cT hg ho13
          refine rv rfl rfl ?_
          refine gy rfl rfl rfl ?_
          refine rv rfl rfl ?_
          refine rt ((lM (cI .u64) b2)) ?_
          refine gy rfl rfl rfl ?_
          refine rv rfl rfl ?_
          refine rv rfl rfl ?_
          refine rn ?_
          cases ho13
          exact cut_n [0] rfl rfl ⟨rfl, rfl, zA rfl rfl rfl (zA rfl rfl rfl (zA rfl rfl rfl (zA rfl rfl rfl (trivial)))), trivial, zE rfl .row rfl (trivial)⟩
        · have ho13 := cF hg ho13
          refine gn rfl rfl rfl rfl rfl ?_
          refine gn rfl rfl rfl rfl rfl ?_
          refine rv rfl rfl ?_
          refine rn ?_
          cases ho13
          exact cut_n [0] rfl rfl ⟨rfl, rfl, zA rfl rfl rfl (zA rfl rfl rfl (zA rfl rfl rfl (zA rfl rfl rfl (trivial)))), trivial, zE rfl .row rfl (trivial)⟩
      · rintro x1 rfl
        change awp _ _ _ _ _ ⟨_, _, _, _⟩
        refine cs_ rfl (fun hc => ?_) (fun hc => ?_)
        · have ho9 := cT hc ho9
          refine awp_skip ?_
          refine awp_block ?_
          refine awp_seq ?_
          refine awp_dp (m := 7) Try.mix (by kernel_rfl) (by kernel_rfl) (by kernel_rfl) (by kernel_rfl) (by kernel_rfl) (by kernel_rfl) (by kernel_rfl) ?_
          refine dv rfl rfl (fun _ => rfl) ?_
          obtain ⟨x2, hx14, ho9⟩ := bi ho9
          refine di rfl rfl rfl rfl rfl (fun _ => rfl) rfl (gi0 hx14) (giM (cI .u64) hx14) (wM (fun _ => by rfl) _) ?_
          refine dv rfl rfl (fun _ => rfl) ?_
          refine dv rfl rfl (fun _ => rfl) ?_
          obtain ⟨x3, hx15, ho9⟩ := bi ho9
          refine di rfl rfl rfl rfl rfl (fun _ => rfl) rfl (gi0 hx15) (giM (cI .u64) hx15) (wM (fun _ => by rfl) _) ?_
          refine dv rfl rfl (fun _ => rfl) ?_
          refine dv rfl rfl (fun _ => rfl) ?_
          refine dn ?_
          refine rn ?_
          refine cs_ rfl (fun hc => ?_) (fun hc => ?_)
          · have ho9 := cT hc ho9
            refine awp_seq ?_
            refine awp_region ?_
            refine rvs 2 rfl ?_
            obtain ⟨out4, hx16, ho9⟩ := bi ho9
            refine ri rfl rfl rfl rfl rfl rfl (gi0 hx16) (giM (cI .u64) hx16) (wM (fun _ => by rfl) _) ?_
            refine rv rfl rfl ?_
            refine rbs false rfl rfl rfl rfl rfl rfl rfl rfl rfl rfl ?_
            obtain ⟨out5, hx17, ho9⟩ := bi ho9
            refine rap false (z := 1) (xs := out1.map (cI .u64)) (ys := [out4].map (cI .u64)) rfl rfl rfl rfl rfl rfl rfl (.own rfl rfl) (.sl rfl rfl rfl) (wM (fun _ => by rfl) _) (oM (fun _ => by rfl) _) (apB (cI .u64) rfl hx17) rfl ?_
            refine rk (congrArg (Kind.row _) (apM (cI .u64) hx17)) ?_
            refine rv rfl rfl ?_
            refine rn ?_
            refine awp_region ?_
            refine rv rfl rfl ?_
            obtain ⟨l4, hx18, ho9⟩ := bi ho9
            refine rV rfl (va_slsub (c := (cI .u64)) rfl rfl rfl rfl ⟨_, rfl⟩ rfl hx18 (fun _ => rfl)) ?_
            refine rv rfl rfl ?_
            refine rn ?_
            refine inBlock_normal ?_
            cases ho9
            exact lp_n [2] rfl rfl ⟨rfl, rfl, zA rfl rfl rfl (zA rfl rfl rfl (zA rfl rfl rfl (trivial))), trivial, zE rfl .row rfl (trivial)⟩
          · have ho9 := cF hc ho9
            refine awp_seq ?_
            refine awp_region ?_
            refine rvs 2 rfl ?_
            obtain ⟨out6, hx19, ho9⟩ := bi ho9
            refine ri rfl rfl rfl rfl rfl rfl (gi0 hx19) (giM (cI .u64) hx19) (wM (fun _ => by rfl) _) ?_
            refine rv rfl rfl ?_
            refine rbs false rfl rfl rfl rfl rfl rfl rfl rfl rfl rfl ?_
            obtain ⟨out7, hx20, ho9⟩ := bi ho9
            refine rap false (z := 1) (xs := out1.map (cI .u64)) (ys := [out6].map (cI .u64)) rfl rfl rfl rfl rfl rfl rfl (.own rfl rfl) (.sl rfl rfl rfl) (wM (fun _ => by rfl) _) (oM (fun _ => by rfl) _) (apB (cI .u64) rfl hx20) rfl ?_
            refine rk (congrArg (Kind.row _) (apM (cI .u64) hx20)) ?_
            refine rv rfl rfl ?_
            refine rn ?_
            refine awp_region ?_
            refine rv rfl rfl ?_
            obtain ⟨l5, hx21, ho9⟩ := bi ho9
            refine rV rfl (va_slsub (c := (cI .u64)) rfl rfl rfl rfl ⟨_, rfl⟩ rfl hx21 (fun _ => rfl)) ?_
            refine rv rfl rfl ?_
            refine rn ?_
            refine inBlock_normal ?_
            cases ho9
            exact lp_n [2] rfl rfl ⟨rfl, rfl, zA rfl rfl rfl (zA rfl rfl rfl (zA rfl rfl rfl (trivial))), trivial, zE rfl .row rfl (trivial)⟩
        · have ho9 := cF hc ho9
          refine awp_exit ?_
          repeat (first | refine then_exit ?_ | refine cut_x ?_ | refine inBlock_other rfl ?_)
          refine inBlock_exit ?_
          cases ho9
          have hq := hE10 _ rfl
          subst hq
          exact cut_n [0] rfl rfl ⟨rfl, rfl, zA rfl rfl rfl (zA rfl rfl rfl (zA rfl rfl rfl (trivial))), trivial, zE rfl .row rfl (trivial)⟩
    · rintro ⟨a4, b4, out3⟩ rfl
      change awp _ _ _ _ _ ⟨_, _, _, _⟩
      refine awp_seq ?_
      refine awp_region ?_
      refine rvs 2 rfl ?_
      obtain ⟨x4, hx22, h⟩ := bi h
      refine rap false (z := 1) (xs := out3.map (cI .u64)) (ys := a4.map (cI .u64)) rfl rfl rfl rfl rfl rfl rfl (.own rfl rfl) (.sl rfl rfl rfl) (wM (fun _ => by rfl) _) (oM (fun _ => by rfl) _) (apB (cI .u64) rfl hx22) rfl ?_
      refine rk (congrArg (Kind.row _) (apM (cI .u64) hx22)) ?_
      refine rv rfl rfl ?_
      obtain ⟨x5, hx23, h⟩ := bi h
      refine rap false (z := 1) (xs := x4.map (cI .u64)) (ys := b4.map (cI .u64)) rfl rfl rfl rfl rfl rfl rfl (.own rfl rfl) (.sl rfl rfl rfl) (wM (fun _ => by rfl) _) (oM (fun _ => by rfl) _) (apB (cI .u64) rfl hx23) rfl ?_
      refine rk (congrArg (Kind.row _) (apM (cI .u64) hx23)) ?_
      refine rv rfl rfl ?_
      refine rn ?_
      refine awp_ret ?_
      cases h
      repeat (first | refine then_ret ?_ | refine inBlock_ret ?_ | refine cut_r ?_)
      exact rr rfl rfl rfl
end

theorem dref01_Sorted_l : ∀ {fu : Nat}, ∀ {l1} {r : List Int}, dref01_Sorted fu l1 = some r → PCall Try.prog 90 [.sl (l1.map (cI .u64))] (· = .sl (r.map (cI .u64)))
  | 0 => fun h => by simp [dref01_Sorted] at h
  | fu + 1 => dref01_Sorted_s (fu := fu) (dref01_Sorted_l (fu := fu))
/-- `plover/ploverref01.Cells` -/
def dref01_Cells (fu : Nat) (s1 : Int) (r1 : tRect) : Option (List Int) :=
  (dref01_Cell fu s1 r1.X1).bind fun x1 => (loopD (ε := Int × (List Int)) (τ := List Int) (fun (((x2, out1)) : Int × (List Int)) => ((dref01_Cell fu s1 r1.X2).bind fun x4 => bif (decide (x2 ≤ x4)) then ((dref01_Cell fu s1 r1.Y1).bind fun y1 => (loopD (ε := Int × (List Int)) (τ := List Int) (fun (((y2, out4)) : Int × (List Int)) => ((dref01_Cell fu s1 r1.Y2).bind fun x5 => bif (decide (y2 ≤ x5)) then ((dref01_Code fu x2 y2).bind fun code1 => (ap out4 [code1]).bind fun out7 => some (Sum.inl (W (y2 + 1), out7))) else some (Sum.inr out4))) fu (y1, out1)).bind fun (out6 : List Int) => some (Sum.inl (W (x2 + 1), out6))) else some (Sum.inr out1))) fu (x1, [])).bind fun (out3 : List Int) => ((dref01_Sorted fu out3).bind fun x6 => some x6)
section
attribute [local irreducible] awp aops DP PCall ACall Decidable.decide
theorem dref01_Cells_l {fu : Nat} {s1 : Int} {r1 : tRect} {r : List Int} (h : dref01_Cells fu s1 r1 = some r) : PCall Try.prog 53 [.int .i64 s1, .agg [.int .i64 r1.X1, .int .i64 r1.Y1, .int .i64 r1.X2, .int .i64 r1.Y2]] (· = .sl (r.map (cI .u64))) := by
  rw [dref01_Cells] at h
  refine pcall_body Try.func53 rfl (by kernel_rfl) (by rfl) ?_
  refine awp_seq ?_
  refine awp_region ?_
  refine rb rfl rfl ?_
  refine rv rfl rfl ?_
  refine rn ?_
  refine awp_seq ?_
  refine awp_region ?_
  refine rv rfl rfl ?_
  refine rn ?_
  refine awp_seq ?_
  refine awp_seq ?_
  refine awp_region ?_
  refine rvs 3 rfl ?_
  obtain ⟨x1, hx1, h⟩ := bi h
  refine rc1 rfl rfl rfl (dref01_Cell_l hx1) ?_
  refine rv rfl rfl ?_
  refine rn ?_
  refine awp_conv (fun _ _ _ _ _ hi => nilS_slot false 1 5 rfl hi) ?_
  obtain ⟨e2, hl3, h⟩ := bi h
  refine awp_cut1 (fun x => x = e2) (fun (out3 : List Int) => ⟨[(5, .own 0)], [], [(0, .row 1 (out3.map (cI .u64)))], 1⟩) ?_ ?_
  · refine awp_block ?_
    refine awp_loopD hl3 (fun (((x2, out1)) : Int × (List Int)) => ⟨[(0, .int .i64 s1), (3, .ptr 0 0), (5, .own 1), (6, .int .i64 x2)], [(0, 0, .int .i64 r1.X1), (0, 1, .int .i64 r1.Y1), (0, 2, .int .i64 r1.X2), (0, 3, .int .i64 r1.Y2)], [(1, .row 1 (out1.map (cI .u64)))], 2⟩) [0, 1] rfl ⟨rfl, rfl, zA rfl rfl rfl (zA rfl rfl rfl (zA rfl rfl rfl (zA rfl rfl rfl (trivial)))), zC rfl rfl rfl rfl (zC rfl rfl rfl rfl (zC rfl rfl rfl rfl (zC rfl rfl rfl rfl (trivial)))), zE rfl .row rfl (trivial)⟩ ?_
    intro v o6 ho4 hE5
    obtain ⟨x2, out1⟩ := v
    change awp _ _ _ _ _ ⟨_, _, _, _⟩
    refine awp_seq ?_
    refine awp_seq ?_
    refine awp_region ?_
    refine rvs 4 rfl ?_
    obtain ⟨x4, hx7, ho4⟩ := bi ho4
    refine rc1 rfl rfl rfl (dref01_Cell_l hx7) ?_
    refine rv rfl rfl ?_
    refine rn ?_
    refine cs_ rfl (fun hc => ?_) (fun hc => ?_)
    · have ho4 := cT hc ho4
      refine awp_skip ?_
      refine awp_seq ?_
      refine awp_block ?_
      refine awp_seq ?_
      refine awp_region ?_
      refine rvs 3 rfl ?_
      obtain ⟨y1, hx8, ho4⟩ := bi ho4
      refine rc1 rfl rfl rfl (dref01_Cell_l hx8) ?_
      refine rv rfl rfl ?_
      refine rn ?_
      obtain ⟨e9, hl10, ho4⟩ := bi ho4
      refine awp_cut1 (fun x => x = e9) (fun (out6 : List Int) => ⟨[(0, .int .i64 s1), (3, .ptr 0 0), (5, .own 1), (6, .int .i64 x2)], [(0, 0, .int .i64 r1.X1), (0, 1, .int .i64 r1.Y1), (0, 2, .int .i64 r1.X2), (0, 3, .int .i64 r1.Y2)], [(1, .row 1 (out6.map (cI .u64)))], 2⟩) ?_ ?_
      · refine awp_block ?_
        refine awp_loopD hl10 (fun (((y2, out4)) : Int × (List Int)) => ⟨[(0, .int .i64 s1), (3, .ptr 0 0), (5, .own 1), (6, .int .i64 x2), (7, .int .i64 y2)], [(0, 0, .int .i64 r1.X1), (0, 1, .int .i64 r1.Y1), (0, 2, .int .i64 r1.X2), (0, 3, .int .i64 r1.Y2)], [(1, .row 1 (out4.map (cI .u64)))], 2⟩) [0, 1] rfl ⟨rfl, rfl, zA rfl rfl rfl (zA rfl rfl rfl (zA rfl rfl rfl (zA rfl rfl rfl (zA rfl rfl rfl (trivial))))), zC rfl rfl rfl rfl (zC rfl rfl rfl rfl (zC rfl rfl rfl rfl (zC rfl rfl rfl rfl (trivial)))), zE rfl .row rfl (trivial)⟩ ?_
        intro v o13 ho11 hE12
        obtain ⟨y2, out4⟩ := v
        change awp _ _ _ _ _ ⟨_, _, _, _⟩
        refine awp_seq ?_
        refine awp_seq ?_
        refine awp_region ?_
        refine rvs 4 rfl ?_
        obtain ⟨x5, hx14, ho11⟩ := bi ho11
        refine rc1 rfl rfl rfl (dref01_Cell_l hx14) ?_
        refine rv rfl rfl ?_
        refine rn ?_
        refine cs_ rfl (fun hc => ?_) (fun hc => ?_)
        · have ho11 := cT hc ho11
          refine awp_skip ?_
          refine awp_seq ?_
          refine awp_block ?_
          refine awp_seq ?_
          refine awp_region ?_
          refine rvs 2 rfl ?_
          obtain ⟨code1, hx15, ho11⟩ := bi ho11
          refine rc1 rfl rfl rfl (dref01_Code_l hx15) ?_
          refine rv rfl rfl ?_
          refine rn ?_
          refine awp_region ?_
          refine rvs 2 rfl ?_
          refine rbs false rfl rfl rfl rfl rfl rfl rfl rfl rfl rfl ?_
          obtain ⟨out7, hx16, ho11⟩ := bi ho11
          refine rap false (z := 1) (xs := out4.map (cI .u64)) (ys := [code1].map (cI .u64)) rfl rfl rfl rfl rfl rfl rfl (.own rfl rfl) (.sl rfl rfl rfl) (wM (fun _ => by rfl) _) (oM (fun _ => by rfl) _) (apB (cI .u64) rfl hx16) rfl ?_
          refine rk (congrArg (Kind.row _) (apM (cI .u64) hx16)) ?_
          refine rv rfl rfl ?_
          refine rn ?_
          refine inBlock_normal ?_
          refine awp_region ?_
          refine rvs 3 rfl ?_
          refine rn ?_
          cases ho11
          exact lp_n [0, 3] rfl rfl ⟨rfl, rfl, zA rfl rfl rfl (zA rfl rfl rfl (zA rfl rfl rfl (zA rfl rfl rfl (zA rfl rfl rfl (trivial))))), zC rfl rfl rfl rfl (zC rfl rfl rfl rfl (zC rfl rfl rfl rfl (zC rfl rfl rfl rfl (trivial)))), zE rfl .row rfl (trivial)⟩
        · have ho11 := cF hc ho11
          refine awp_exit ?_
          repeat (first | refine then_exit ?_ | refine cut_x ?_ | refine inBlock_other rfl ?_)
          refine inBlock_exit ?_
          cases ho11
          have hq := hE12 _ rfl
          subst hq
          exact cut_n [0, 1] rfl rfl ⟨rfl, rfl, zA rfl rfl rfl (zA rfl rfl rfl (zA rfl rfl rfl (zA rfl rfl rfl (trivial)))), zC rfl rfl rfl rfl (zC rfl rfl rfl rfl (zC rfl rfl rfl rfl (zC rfl rfl rfl rfl (trivial)))), zE rfl .row rfl (trivial)⟩
      · rintro out6 rfl
        change awp _ _ _ _ _ ⟨_, _, _, _⟩
        refine awp_region ?_
        refine rvs 3 rfl ?_
        refine rn ?_
        cases ho4
        exact lp_n [0, 1] rfl rfl ⟨rfl, rfl, zA rfl rfl rfl (zA rfl rfl rfl (zA rfl rfl rfl (zA rfl rfl rfl (trivial)))), zC rfl rfl rfl rfl (zC rfl rfl rfl rfl (zC rfl rfl rfl rfl (zC rfl rfl rfl rfl (trivial)))), zE rfl .row rfl (trivial)⟩
    · have ho4 := cF hc ho4
      refine awp_exit ?_
      repeat (first | refine then_exit ?_ | refine cut_x ?_ | refine inBlock_other rfl ?_)
      refine inBlock_exit ?_
      cases ho4
      have hq := hE5 _ rfl
      subst hq
      exact cut_n [1] rfl rfl ⟨rfl, rfl, zA rfl rfl rfl (trivial), trivial, zE rfl .row rfl (trivial)⟩
  · rintro out3 rfl
    change awp _ _ _ _ _ ⟨_, _, _, _⟩
    refine awp_seq ?_
    refine awp_region ?_
    refine rv rfl rfl ?_
    obtain ⟨x6, hx17, h⟩ := bi h
    refine rc1 rfl rfl rfl (dref01_Sorted_l hx17) ?_
    refine rv rfl rfl ?_
    refine rn ?_
    refine awp_ret ?_
    cases h
    repeat (first | refine then_ret ?_ | refine inBlock_ret ?_ | refine cut_r ?_)
    exact rr rfl rfl rfl
end

/-- `plover/ploverlaw05.up` -/
def dlaw05_up (fu : Nat)  : Option Bool :=
  (dcover_Cells fu 30 (tRect.mk (-1073741824) (-1073741824) 1073741824 1073741824)).bind fun l1 => (dcover_Cells fu 30 (tRect.mk 1 0 0 0)).bind fun x1 => bif l1.2.isNone then (bif ((l1.1.length : Int) == 9) then (bif (x1.2 == some 1) then ((dcover_Same fu 30 (tRect.mk 0 0 0 0) (tRect.mk 0 0 5 0)).bind fun x2 => some x2) else some false) else some false) else some false
section
attribute [local irreducible] awp aops DP PCall ACall Decidable.decide
theorem dlaw05_up_l {fu : Nat}  {r : Bool} (h : dlaw05_up fu  = some r) : PCall Try.prog 48 [] (· = .bool r) := by
  rw [dlaw05_up] at h
  refine pcall_body Try.func48 rfl (by kernel_rfl) (by rfl) ?_
  refine awp_seq ?_
  refine awp_region ?_
  refine rv rfl rfl ?_
  refine rn ?_
  refine awp_seq ?_
  refine awp_region ?_
  refine rv rfl rfl ?_
  obtain ⟨l1, hx1, h⟩ := bi h
  refine rc1 rfl rfl rfl (dcover_Cells_l hx1) ?_
  refine rvs 5 rfl ?_
  refine rn ?_
  refine awp_seq ?_
  refine awp_region ?_
  refine rv rfl rfl ?_
  obtain ⟨x1, hx2, h⟩ := bi h
  refine rc1 rfl rfl rfl (dcover_Cells_l hx2) ?_
  refine rvs 5 rfl ?_
  refine rn ?_
  refine awp_seq ?_
  refine awp_region ?_
  refine rv rfl rfl ?_
  refine rV rfl (va_enil rfl rfl rfl) ?_
  refine rv rfl rfl ?_
  refine gs rfl rfl rfl rfl rfl (fun hg => ?_) (fun hg => ?_)
  · have h := cT hg h
    refine rv rfl rfl ?_
    refine gy rfl rfl rfl ?_
    refine rv rfl rfl ?_
    refine rt ((lM (cI .u64) l1.1)) ?_
    refine gy rfl rfl rfl ?_
    refine rv rfl rfl ?_
    refine rvs 2 rfl ?_
    refine gs rfl rfl rfl rfl rfl (fun hg => ?_) (fun hg => ?_)
    · have h := cT hg h
      refine rv rfl rfl ?_
      refine gy rfl rfl rfl ?_
      refine rv rfl rfl ?_
      refine gy rfl rfl rfl ?_
      refine rV rfl (va_eeq rfl rfl rfl rfl rfl rfl (fun _ => rfl)) ?_
      refine rvs 2 rfl ?_
      refine gs rfl rfl rfl rfl rfl (fun hg => ?_) (fun hg => ?_)
      · have h := cT hg h
        refine rv rfl rfl ?_
        refine gy rfl rfl rfl ?_
        refine rv rfl rfl ?_
        refine gy rfl rfl rfl ?_
        obtain ⟨x2, hx3, h⟩ := bi h
        refine rc1 rfl rfl rfl (dcover_Same_l hx3) ?_
        refine rvs 2 rfl ?_
        refine rn ?_
        refine awp_ret ?_
        cases h
        repeat (first | refine then_ret ?_ | refine inBlock_ret ?_ | refine cut_r ?_)
        exact rr rfl rfl rfl
      · have h := cF hg h
        refine gn rfl rfl rfl rfl rfl ?_
        refine gn rfl rfl rfl rfl rfl ?_
        refine rvs 2 rfl ?_
        refine rn ?_
        refine awp_ret ?_
        cases h
        repeat (first | refine then_ret ?_ | refine inBlock_ret ?_ | refine cut_r ?_)
        exact rr rfl rfl rfl
    · have h := cF hg h
      refine gn rfl rfl rfl rfl rfl ?_
      refine gn rfl rfl rfl rfl rfl ?_
      refine rvs 2 rfl ?_
      refine gn rfl rfl rfl rfl rfl ?_
      refine gn rfl rfl rfl rfl rfl ?_
      refine gn rfl rfl rfl rfl rfl ?_
      refine rvs 2 rfl ?_
      refine rn ?_
      refine awp_ret ?_
      cases h
      repeat (first | refine then_ret ?_ | refine inBlock_ret ?_ | refine cut_r ?_)
      exact rr rfl rfl rfl
  · have h := cF hg h
    refine gn rfl rfl rfl rfl rfl ?_
    refine gn rfl rfl rfl rfl rfl ?_
    refine rvs 2 rfl ?_
    refine gn rfl rfl rfl rfl rfl ?_
    refine gn rfl rfl rfl rfl rfl ?_
    refine gn rfl rfl rfl rfl rfl ?_
    refine rvs 2 rfl ?_
    refine gn rfl rfl rfl rfl rfl ?_
    refine gn rfl rfl rfl rfl rfl ?_
    refine gn rfl rfl rfl rfl rfl ?_
    refine rvs 2 rfl ?_
    refine rn ?_
    refine awp_ret ?_
    cases h
    repeat (first | refine then_ret ?_ | refine inBlock_ret ?_ | refine cut_r ?_)
    exact rr rfl rfl rfl
end

/-- `plover/ploverlaw05.CoverTells` -/
def dlaw05_CoverTells (fu : Nat) (s1 : Int) (a1 : tRect) (b1 : tRect) : Option Bool :=
  (dlaw05_up fu ).bind fun head1 => (dref01_Shift fu s1).bind fun shift1 => (dref01_Rect fu a1).bind fun x1 => (dref01_Rect fu b1).bind fun y1 => (dcover_Cells fu s1 a1).bind fun l1 => (dcover_Box fu s1 a1).bind fun f1 => (bif (!shift1) then some true else some (!x1) : Option Bool).bind fun (x2 : Bool) => (bif x2 then ((bif head1 then (bif (l1.2 == some 1) then (bif (f1.2 == some 1) then (bif ((l1.1.length : Int) == 0) then ((dcover_Same fu s1 a1 b1).bind fun x4 => some (!x4)) else some false) else some false) else some false) else some false : Option Bool).bind fun (x3 : Bool) => some x3) else ((dref01_Cells fu s1 a1).bind fun want1 => (dref01_Cover fu s1 a1).bind fun x5 => (bif l1.2.isSome then some true else (bif f1.2.isSome then some true else (bif ((l1.1.length : Int) != (want1.length : Int)) then some true else some (!((f1.1.X1 == x5.X1) && ((f1.1.Y1 == x5.Y1) && ((f1.1.X2 == x5.X2) && ((f1.1.Y2 == x5.Y2) && true))))))) : Option Bool).bind fun (x6 : Bool) => (bif x6 then some false else ((loopD (ε := Int) (τ := Unit ⊕ Bool) (fun (i1 : Int) => (bif (decide (i1 < (l1.1.length : Int))) then ((gi l1.1 i1).bind fun x7 => (gi want1 i1).bind fun x8 => bif (x7 != x8) then some (Sum.inr (Sum.inr false)) else some (Sum.inl (W (i1 + 1)))) else some (Sum.inr (Sum.inl ())))) fu 0).bind fun o => kS o fun (_ : Unit) => ((bif y1 then ((dref01_Cover fu s1 b1).bind fun same2 => (some ((same2.X1 == x5.X1) && ((same2.Y1 == x5.Y1) && ((same2.X2 == x5.X2) && ((same2.Y2 == x5.Y2) && true))))).bind fun same3 => some same3) else some false : Option Bool).bind fun (same1 : Bool) => (bif head1 then ((dcover_Same fu s1 a1 b1).bind fun x9 => some (x9 == same1)) else some false))))))
section
attribute [local irreducible] awp aops DP PCall ACall Decidable.decide
theorem dlaw05_CoverTells_l {fu : Nat} {s1 : Int} {a1 : tRect} {b1 : tRect} {r : Bool} (h : dlaw05_CoverTells fu s1 a1 b1 = some r) : PCall Try.prog 11 [.int .i64 s1, .agg [.int .i64 a1.X1, .int .i64 a1.Y1, .int .i64 a1.X2, .int .i64 a1.Y2], .agg [.int .i64 b1.X1, .int .i64 b1.Y1, .int .i64 b1.X2, .int .i64 b1.Y2]] (· = .bool r) := by
  rw [dlaw05_CoverTells] at h
  refine pcall_body Try.func11 rfl (by kernel_rfl) (by rfl) ?_
  refine awp_seq ?_
  refine awp_region ?_
  refine rb rfl rfl ?_
  refine rb rfl rfl ?_
  refine rv rfl rfl ?_
  refine rn ?_
  refine awp_seq ?_
  refine awp_region ?_
  obtain ⟨head1, hx1, h⟩ := bi h
  refine rc1 rfl rfl rfl (dlaw05_up_l hx1) ?_
  refine rv rfl rfl ?_
  refine rn ?_
  refine awp_seq ?_
  refine awp_region ?_
  refine rv rfl rfl ?_
  obtain ⟨shift1, hx2, h⟩ := bi h
  refine rc1 rfl rfl rfl (dref01_Shift_l hx2) ?_
  refine rv rfl rfl ?_
  refine rn ?_
  refine awp_seq ?_
  refine awp_region ?_
  refine rv rfl rfl ?_
  obtain ⟨x1, hx3, h⟩ := bi h
  refine rc1 rfl rfl rfl (dref01_Rect_l hx3) ?_
  refine rv rfl rfl ?_
  refine rn ?_
  refine awp_seq ?_
  refine awp_region ?_
  refine rv rfl rfl ?_
  obtain ⟨y1, hx4, h⟩ := bi h
  refine rc1 rfl rfl rfl (dref01_Rect_l hx4) ?_
  refine rv rfl rfl ?_
  refine rn ?_
  refine awp_seq ?_
  refine awp_region ?_
  refine rvs 2 rfl ?_
  obtain ⟨l1, hx5, h⟩ := bi h
  refine rc1 rfl rfl rfl (dcover_Cells_l hx5) ?_
  refine rvs 5 rfl ?_
  refine rn ?_
  refine awp_seq ?_
  refine awp_region ?_
  refine rvs 2 rfl ?_
  obtain ⟨f1, hx6, h⟩ := bi h
  refine rc1 rfl rfl rfl (dcover_Box_l hx6) ?_
  refine rvs 3 rfl ?_
  refine ra rfl rfl rfl ?_
  refine rs rfl rfl rfl rfl rfl rfl rfl ?_
  refine rv rfl rfl ?_
  refine rn ?_
  refine awp_seq ?_
  refine awp_seq ?_
  obtain ⟨o7, ho8, h⟩ := bi h
  refine awp_cut1 (fun x => x = o7) (fun (x2 : Bool) => ⟨[(0, .int .i64 s1), (4, .ptr 0 0), (5, .ptr 1 0), (7, .bool head1), (10, .bool y1), (11, .sl (l1.1.map (cI .u64))), (12, .err 35 l1.2), (13, .ptr 2 0), (14, .err 35 f1.2), (43, .bool x2)], [(0, 0, .int .i64 a1.X1), (0, 1, .int .i64 a1.Y1), (0, 2, .int .i64 a1.X2), (0, 3, .int .i64 a1.Y2), (1, 0, .int .i64 b1.X1), (1, 1, .int .i64 b1.Y1), (1, 2, .int .i64 b1.X2), (1, 3, .int .i64 b1.Y2), (2, 0, .int .i64 f1.1.X1), (2, 1, .int .i64 f1.1.Y1), (2, 2, .int .i64 f1.1.X2), (2, 3, .int .i64 f1.1.Y2)], [], 3⟩) ?_ ?_
  · refine awp_region ?_
    refine rvs 3 rfl ?_
    refine gs rfl rfl rfl rfl rfl (fun hg => ?_) (fun hg => ?_)
    · have ho8 := cF hg ho8
      refine rv rfl rfl ?_
      refine gy rfl rfl rfl ?_
      refine rv rfl rfl ?_
      refine rv rfl rfl ?_
      refine rn ?_
      cases ho8
      exact cut_n [0, 1, 2] rfl rfl ⟨rfl, rfl, zA rfl rfl rfl (zA rfl rfl rfl (zA rfl rfl rfl (zA rfl rfl rfl (zA rfl rfl rfl (zA rfl rfl rfl (zA rfl rfl rfl (zA rfl rfl rfl (zA rfl rfl rfl (zA rfl rfl rfl (trivial)))))))))), zC rfl rfl rfl rfl (zC rfl rfl rfl rfl (zC rfl rfl rfl rfl (zC rfl rfl rfl rfl (zC rfl rfl rfl rfl (zC rfl rfl rfl rfl (zC rfl rfl rfl rfl (zC rfl rfl rfl rfl (zC rfl rfl rfl rfl (zC rfl rfl rfl rfl (zC rfl rfl rfl rfl (zC rfl rfl rfl rfl (trivial)))))))))))), trivial⟩
    · have ho8 := cT hg ho8
      refine gn rfl rfl rfl rfl rfl ?_
      refine rv rfl rfl ?_
      refine rn ?_
      cases ho8
      exact cut_n [0, 1, 2] rfl rfl ⟨rfl, rfl, zA rfl rfl rfl (zA rfl rfl rfl (zA rfl rfl rfl (zA rfl rfl rfl (zA rfl rfl rfl (zA rfl rfl rfl (zA rfl rfl rfl (zA rfl rfl rfl (zA rfl rfl rfl (zA rfl rfl rfl (trivial)))))))))), zC rfl rfl rfl rfl (zC rfl rfl rfl rfl (zC rfl rfl rfl rfl (zC rfl rfl rfl rfl (zC rfl rfl rfl rfl (zC rfl rfl rfl rfl (zC rfl rfl rfl rfl (zC rfl rfl rfl rfl (zC rfl rfl rfl rfl (zC rfl rfl rfl rfl (zC rfl rfl rfl rfl (zC rfl rfl rfl rfl (trivial)))))))))))), trivial⟩
  · rintro x2 rfl
    change awp _ _ _ _ _ ⟨_, _, _, _⟩
    refine cs_ rfl (fun hc => ?_) (fun hc => ?_)
    · have h := cT hc h
      refine awp_seq ?_
      obtain ⟨o9, ho10, h⟩ := bi h
      refine awp_cut1 (fun x => x = o9) (fun (x3 : Bool) => ⟨[(6, .bool x3)], [], [], 0⟩) ?_ ?_
      · refine awp_region ?_
        refine rvs 2 rfl ?_
        refine gs rfl rfl rfl rfl rfl (fun hg => ?_) (fun hg => ?_)
        · have ho10 := cT hg ho10
          refine rv rfl rfl ?_
          refine gy rfl rfl rfl ?_
          refine rv rfl rfl ?_
          refine gy rfl rfl rfl ?_
          refine rV rfl (va_eeq rfl rfl rfl rfl rfl rfl (fun _ => rfl)) ?_
          refine rvs 2 rfl ?_
          refine gs rfl rfl rfl rfl rfl (fun hg => ?_) (fun hg => ?_)
          · have ho10 := cT hg ho10
            refine rv rfl rfl ?_
            refine gy rfl rfl rfl ?_
            refine rv rfl rfl ?_
            refine gy rfl rfl rfl ?_
            refine rV rfl (va_eeq rfl rfl rfl rfl rfl rfl (fun _ => rfl)) ?_
            refine rvs 2 rfl ?_
            refine gs rfl rfl rfl rfl rfl (fun hg => ?_) (fun hg => ?_)
            · have ho10 := cT hg ho10
              refine rv rfl rfl ?_
              refine gy rfl rfl rfl ?_
              refine rv rfl rfl ?_
              refine rt ((lM (cI .u64) l1.1)) ?_
              refine gy rfl rfl rfl ?_
              refine rv rfl rfl ?_
              refine rvs 2 rfl ?_
              refine gs rfl rfl rfl rfl rfl (fun hg => ?_) (fun hg => ?_)
              · have ho10 := cT hg ho10
                refine rv rfl rfl ?_
                refine gy rfl rfl rfl ?_
                refine rv rfl rfl ?_
                refine gy rfl rfl rfl ?_
                refine rv rfl rfl ?_
                refine gy rfl rfl rfl ?_
                obtain ⟨x4, hx11, ho10⟩ := bi ho10
                refine rc1 rfl rfl rfl (dcover_Same_l hx11) ?_
                refine gy rfl rfl rfl ?_
                refine rv rfl rfl ?_
                refine rvs 2 rfl ?_
                refine rn ?_
                cases ho10
                exact cut_n [] rfl rfl ⟨rfl, rfl, zA rfl rfl rfl (trivial), trivial, trivial⟩
              · have ho10 := cF hg ho10
                refine gn rfl rfl rfl rfl rfl ?_
                refine gn rfl rfl rfl rfl rfl ?_
                refine gn rfl rfl rfl rfl rfl ?_
                refine gn rfl rfl rfl rfl rfl ?_
                refine rvs 2 rfl ?_
                refine rn ?_
                cases ho10
                exact cut_n [] rfl rfl ⟨rfl, rfl, zA rfl rfl rfl (trivial), trivial, trivial⟩
            · have ho10 := cF hg ho10
              refine gn rfl rfl rfl rfl rfl ?_
              refine gn rfl rfl rfl rfl rfl ?_
              refine rvs 2 rfl ?_
              refine gn rfl rfl rfl rfl rfl ?_
              refine gn rfl rfl rfl rfl rfl ?_
              refine gn rfl rfl rfl rfl rfl ?_
              refine gn rfl rfl rfl rfl rfl ?_
              refine gn rfl rfl rfl rfl rfl ?_
              refine rvs 2 rfl ?_
              refine rn ?_
              cases ho10
              exact cut_n [] rfl rfl ⟨rfl, rfl, zA rfl rfl rfl (trivial), trivial, trivial⟩
          · have ho10 := cF hg ho10
            refine gn rfl rfl rfl rfl rfl ?_
            refine gn rfl rfl rfl rfl rfl ?_
            refine rvs 2 rfl ?_
            refine gn rfl rfl rfl rfl rfl ?_
            refine gn rfl rfl rfl rfl rfl ?_
            refine gn rfl rfl rfl rfl rfl ?_
            refine rvs 2 rfl ?_
            refine gn rfl rfl rfl rfl rfl ?_
            refine gn rfl rfl rfl rfl rfl ?_
            refine gn rfl rfl rfl rfl rfl ?_
            refine gn rfl rfl rfl rfl rfl ?_
            refine gn rfl rfl rfl rfl rfl ?_
            refine rvs 2 rfl ?_
            refine rn ?_
            cases ho10
            exact cut_n [] rfl rfl ⟨rfl, rfl, zA rfl rfl rfl (trivial), trivial, trivial⟩
        · have ho10 := cF hg ho10
          refine gn rfl rfl rfl rfl rfl ?_
          refine gn rfl rfl rfl rfl rfl ?_
          refine rvs 2 rfl ?_
          refine gn rfl rfl rfl rfl rfl ?_
          refine gn rfl rfl rfl rfl rfl ?_
          refine gn rfl rfl rfl rfl rfl ?_
          refine rvs 2 rfl ?_
          refine gn rfl rfl rfl rfl rfl ?_
          refine gn rfl rfl rfl rfl rfl ?_
          refine gn rfl rfl rfl rfl rfl ?_
          refine rvs 2 rfl ?_
          refine gn rfl rfl rfl rfl rfl ?_
          refine gn rfl rfl rfl rfl rfl ?_
          refine gn rfl rfl rfl rfl rfl ?_
          refine gn rfl rfl rfl rfl rfl ?_
          refine gn rfl rfl rfl rfl rfl ?_
          refine rvs 2 rfl ?_
          refine rn ?_
          cases ho10
          exact cut_n [] rfl rfl ⟨rfl, rfl, zA rfl rfl rfl (trivial), trivial, trivial⟩
      · rintro x3 rfl
        change awp _ _ _ _ _ ⟨_, _, _, _⟩
        refine awp_ret ?_
        cases h
        repeat (first | refine then_ret ?_ | refine inBlock_ret ?_ | refine cut_r ?_)
        exact rr rfl rfl rfl
    · have h := cF hc h
      refine awp_skip ?_
      refine awp_seq ?_
      refine awp_region ?_
      refine rvs 2 rfl ?_
      obtain ⟨want1, hx12, h⟩ := bi h
      refine rc1 rfl rfl rfl (dref01_Cells_l hx12) ?_
      refine rv rfl rfl ?_
      refine rn ?_
      refine awp_seq ?_
      refine awp_region ?_
      refine rvs 2 rfl ?_
      obtain ⟨x5, hx13, h⟩ := bi h
      refine rc1 rfl rfl rfl (dref01_Cover_l hx13) ?_
      refine ra rfl rfl rfl ?_
      refine rs rfl rfl rfl rfl rfl rfl rfl ?_
      refine rn ?_
      refine awp_seq ?_
      refine awp_seq ?_
      obtain ⟨o14, ho15, h⟩ := bi h
      refine awp_cut1 (fun x => x = o14) (fun (x6 : Bool) => ⟨[(0, .int .i64 s1), (4, .ptr 0 0), (5, .ptr 1 0), (7, .bool head1), (10, .bool y1), (11, .sl (l1.1.map (cI .u64))), (15, .sl (want1.map (cI .u64))), (16, .ptr 2 0), (90, .bool x6)], [(0, 0, .int .i64 a1.X1), (0, 1, .int .i64 a1.Y1), (0, 2, .int .i64 a1.X2), (0, 3, .int .i64 a1.Y2), (1, 0, .int .i64 b1.X1), (1, 1, .int .i64 b1.Y1), (1, 2, .int .i64 b1.X2), (1, 3, .int .i64 b1.Y2), (2, 0, .int .i64 x5.X1), (2, 1, .int .i64 x5.Y1), (2, 2, .int .i64 x5.X2), (2, 3, .int .i64 x5.Y2)], [], 3⟩) ?_ ?_
      · refine awp_region ?_
        refine rv rfl rfl ?_
        refine rV rfl (va_ennil rfl rfl rfl) ?_
        refine rv rfl rfl ?_
        refine gs rfl rfl rfl rfl rfl (fun hg => ?_) (fun hg => ?_)
        · have ho15 := cF hg ho15
          refine rv rfl rfl ?_
          refine gy rfl rfl rfl ?_
          refine rV rfl (va_ennil rfl rfl rfl) ?_
          refine rvs 2 rfl ?_
          refine gs rfl rfl rfl rfl rfl (fun hg => ?_) (fun hg => ?_)
          · have ho15 := cF hg ho15
            refine rv rfl rfl ?_
            refine gy rfl rfl rfl ?_
            refine rv rfl rfl ?_
            refine rt ((lM (cI .u64) l1.1)) ?_
            refine gy rfl rfl rfl ?_
            refine rv rfl rfl ?_
            refine gy rfl rfl rfl ?_
            refine rv rfl rfl ?_
            refine rt ((lM (cI .u64) want1)) ?_
            refine gy rfl rfl rfl ?_
            refine rv rfl rfl ?_
            refine rvs 2 rfl ?_
            refine gs rfl rfl rfl rfl rfl (fun hg => ?_) (fun hg => ?_)
            · have ho15 := cF hg ho15
              refine rv rfl rfl ?_
              refine gy rfl rfl rfl ?_
              refine rv rfl rfl ?_
              refine gy rfl rfl rfl ?_
              refine rv rfl rfl ?_
              refine rv rfl rfl ?_
              refine rn ?_
              cases ho15
              exact cut_n [0, 1, 3] rfl rfl ⟨rfl, rfl, zA rfl rfl rfl (zA rfl rfl rfl (zA rfl rfl rfl (zA rfl rfl rfl (zA rfl rfl rfl (zA rfl rfl rfl (zA rfl rfl rfl (zA rfl rfl rfl (zA rfl rfl rfl (trivial))))))))), zC rfl rfl rfl rfl (zC rfl rfl rfl rfl (zC rfl rfl rfl rfl (zC rfl rfl rfl rfl (zC rfl rfl rfl rfl (zC rfl rfl rfl rfl (zC rfl rfl rfl rfl (zC rfl rfl rfl rfl (zC rfl rfl rfl rfl (zC rfl rfl rfl rfl (zC rfl rfl rfl rfl (zC rfl rfl rfl rfl (trivial)))))))))))), trivial⟩
            · have ho15 := cT hg ho15
              refine gn rfl rfl rfl rfl rfl ?_
              refine gn rfl rfl rfl rfl rfl ?_
              refine rv rfl rfl ?_
              refine rn ?_
              cases ho15
              exact cut_n [0, 1, 3] rfl rfl ⟨rfl, rfl, zA rfl rfl rfl (zA rfl rfl rfl (zA rfl rfl rfl (zA rfl rfl rfl (zA rfl rfl rfl (zA rfl rfl rfl (zA rfl rfl rfl (zA rfl rfl rfl (zA rfl rfl rfl (trivial))))))))), zC rfl rfl rfl rfl (zC rfl rfl rfl rfl (zC rfl rfl rfl rfl (zC rfl rfl rfl rfl (zC rfl rfl rfl rfl (zC rfl rfl rfl rfl (zC rfl rfl rfl rfl (zC rfl rfl rfl rfl (zC rfl rfl rfl rfl (zC rfl rfl rfl rfl (zC rfl rfl rfl rfl (zC rfl rfl rfl rfl (trivial)))))))))))), trivial⟩
          · have ho15 := cT hg ho15
            refine gn rfl rfl rfl rfl rfl ?_
            refine gn rfl rfl rfl rfl rfl ?_
            refine gn rfl rfl rfl rfl rfl ?_
            refine gn rfl rfl rfl rfl rfl ?_
            refine rvs 2 rfl ?_
            refine gn rfl rfl rfl rfl rfl ?_
            refine gn rfl rfl rfl rfl rfl ?_
            refine gn rfl rfl rfl rfl rfl ?_
            refine rv rfl rfl ?_
            refine rn ?_
            cases ho15
            exact cut_n [0, 1, 3] rfl rfl ⟨rfl, rfl, zA rfl rfl rfl (zA rfl rfl rfl (zA rfl rfl rfl (zA rfl rfl rfl (zA rfl rfl rfl (zA rfl rfl rfl (zA rfl rfl rfl (zA rfl rfl rfl (zA rfl rfl rfl (trivial))))))))), zC rfl rfl rfl rfl (zC rfl rfl rfl rfl (zC rfl rfl rfl rfl (zC rfl rfl rfl rfl (zC rfl rfl rfl rfl (zC rfl rfl rfl rfl (zC rfl rfl rfl rfl (zC rfl rfl rfl rfl (zC rfl rfl rfl rfl (zC rfl rfl rfl rfl (zC rfl rfl rfl rfl (zC rfl rfl rfl rfl (trivial)))))))))))), trivial⟩
        · have ho15 := cT hg ho15
          refine gn rfl rfl rfl rfl rfl ?_
          refine rvs 2 rfl ?_
          refine gn rfl rfl rfl rfl rfl ?_
          refine gn rfl rfl rfl rfl rfl ?_
          refine gn rfl rfl rfl rfl rfl ?_
          refine gn rfl rfl rfl rfl rfl ?_
          refine gn rfl rfl rfl rfl rfl ?_
          refine rvs 2 rfl ?_
          refine gn rfl rfl rfl rfl rfl ?_
          refine gn rfl rfl rfl rfl rfl ?_
          refine gn rfl rfl rfl rfl rfl ?_
          refine rv rfl rfl ?_
          refine rn ?_
          cases ho15
          exact cut_n [0, 1, 3] rfl rfl ⟨rfl, rfl, zA rfl rfl rfl (zA rfl rfl rfl (zA rfl rfl rfl (zA rfl rfl rfl (zA rfl rfl rfl (zA rfl rfl rfl (zA rfl rfl rfl (zA rfl rfl rfl (zA rfl rfl rfl (trivial))))))))), zC rfl rfl rfl rfl (zC rfl rfl rfl rfl (zC rfl rfl rfl rfl (zC rfl rfl rfl rfl (zC rfl rfl rfl rfl (zC rfl rfl rfl rfl (zC rfl rfl rfl rfl (zC rfl rfl rfl rfl (zC rfl rfl rfl rfl (zC rfl rfl rfl rfl (zC rfl rfl rfl rfl (zC rfl rfl rfl rfl (trivial)))))))))))), trivial⟩
      · rintro x6 rfl
        change awp _ _ _ _ _ ⟨_, _, _, _⟩
        refine cs_ rfl (fun hc => ?_) (fun hc => ?_)
        · have h := cT hc h
          refine awp_seq ?_
          refine awp_region ?_
          refine rv rfl rfl ?_
          refine rn ?_
          refine awp_ret ?_
          cases h
          repeat (first | refine then_ret ?_ | refine inBlock_ret ?_ | refine cut_r ?_)
          exact rr rfl rfl rfl
        · have h := cF hc h
          refine awp_skip ?_
          refine awp_seq ?_
          refine awp_seq ?_
          refine awp_region ?_
          refine rv rfl rfl ?_
          refine rn ?_
          obtain ⟨e16, hl17, h⟩ := bi h
          refine awp_cut1 (fun x => Sum.inl x = e16) (fun (_ : Unit) => ⟨[(0, .int .i64 s1), (4, .ptr 0 0), (5, .ptr 1 0), (7, .bool head1), (10, .bool y1), (16, .ptr 2 0)], [(0, 0, .int .i64 a1.X1), (0, 1, .int .i64 a1.Y1), (0, 2, .int .i64 a1.X2), (0, 3, .int .i64 a1.Y2), (1, 0, .int .i64 b1.X1), (1, 1, .int .i64 b1.Y1), (1, 2, .int .i64 b1.X2), (1, 3, .int .i64 b1.Y2), (2, 0, .int .i64 x5.X1), (2, 1, .int .i64 x5.Y1), (2, 2, .int .i64 x5.X2), (2, 3, .int .i64 x5.Y2)], [], 3⟩) ?_ ?_
          · refine awp_block ?_
            refine awp_loopD hl17 (fun (i1 : Int) => ⟨[(0, .int .i64 s1), (4, .ptr 0 0), (5, .ptr 1 0), (7, .bool head1), (10, .bool y1), (11, .sl (l1.1.map (cI .u64))), (15, .sl (want1.map (cI .u64))), (16, .ptr 2 0), (17, .int .i64 i1)], [(0, 0, .int .i64 a1.X1), (0, 1, .int .i64 a1.Y1), (0, 2, .int .i64 a1.X2), (0, 3, .int .i64 a1.Y2), (1, 0, .int .i64 b1.X1), (1, 1, .int .i64 b1.Y1), (1, 2, .int .i64 b1.X2), (1, 3, .int .i64 b1.Y2), (2, 0, .int .i64 x5.X1), (2, 1, .int .i64 x5.Y1), (2, 2, .int .i64 x5.X2), (2, 3, .int .i64 x5.Y2)], [], 3⟩) [0, 1, 2] rfl ⟨rfl, rfl, zA rfl rfl rfl (zA rfl rfl rfl (zA rfl rfl rfl (zA rfl rfl rfl (zA rfl rfl rfl (zA rfl rfl rfl (zA rfl rfl rfl (zA rfl rfl rfl (zA rfl rfl rfl (trivial))))))))), zC rfl rfl rfl rfl (zC rfl rfl rfl rfl (zC rfl rfl rfl rfl (zC rfl rfl rfl rfl (zC rfl rfl rfl rfl (zC rfl rfl rfl rfl (zC rfl rfl rfl rfl (zC rfl rfl rfl rfl (zC rfl rfl rfl rfl (zC rfl rfl rfl rfl (zC rfl rfl rfl rfl (zC rfl rfl rfl rfl (trivial)))))))))))), trivial⟩ ?_
            intro i1 o20 ho18 hE19
            change awp _ _ _ _ _ ⟨_, _, _, _⟩
            refine awp_seq ?_
            refine awp_seq ?_
            refine awp_region ?_
            refine rvs 2 rfl ?_
            refine rv rfl rfl ?_
            refine rt ((lM (cI .u64) l1.1)) ?_
            refine rv rfl rfl ?_
            refine rn ?_
            refine cs_ rfl (fun hc => ?_) (fun hc => ?_)
            · have ho18 := cT hc ho18
              refine awp_skip ?_
              refine awp_seq ?_
              refine awp_block ?_
              refine awp_seq ?_
              refine awp_dp (m := 9) Try.mix (by kernel_rfl) (by kernel_rfl) (by kernel_rfl) (by kernel_rfl) (by kernel_rfl) (by kernel_rfl) (by kernel_rfl) ?_
              refine dv rfl rfl (fun _ => rfl) ?_
              refine dv rfl rfl (fun _ => rfl) ?_
              obtain ⟨x7, hx21, ho18⟩ := bi ho18
              refine di rfl rfl rfl rfl rfl (fun _ => rfl) rfl (gi0 hx21) (giM (cI .u64) hx21) (wM (fun _ => by rfl) _) ?_
              refine dv rfl rfl (fun _ => rfl) ?_
              refine dv rfl rfl (fun _ => rfl) ?_
              refine dv rfl rfl (fun _ => rfl) ?_
              obtain ⟨x8, hx22, ho18⟩ := bi ho18
              refine di rfl rfl rfl rfl rfl (fun _ => rfl) rfl (gi0 hx22) (giM (cI .u64) hx22) (wM (fun _ => by rfl) _) ?_
              refine dv rfl rfl (fun _ => rfl) ?_
              refine dv rfl rfl (fun _ => rfl) ?_
              refine dn ?_
              refine rn ?_
              refine cs_ rfl (fun hc => ?_) (fun hc => ?_)
              · have ho18 := cT hc ho18
                refine awp_seq ?_
                refine awp_region ?_
                refine rv rfl rfl ?_
                refine rn ?_
                refine awp_ret ?_
                cases ho18
                have hq := hE19 _ rfl
                subst hq
                have h := ksr h
                subst h
                repeat (first | refine then_ret ?_ | refine inBlock_ret ?_ | refine cut_r ?_)
                exact rr rfl rfl rfl
              · have ho18 := cF hc ho18
                refine awp_skip ?_
                refine inBlock_normal ?_
                refine awp_region ?_
                refine rvs 3 rfl ?_
                refine rn ?_
                cases ho18
                exact lp_n [0, 1, 2] rfl rfl ⟨rfl, rfl, zA rfl rfl rfl (zA rfl rfl rfl (zA rfl rfl rfl (zA rfl rfl rfl (zA rfl rfl rfl (zA rfl rfl rfl (zA rfl rfl rfl (zA rfl rfl rfl (zA rfl rfl rfl (trivial))))))))), zC rfl rfl rfl rfl (zC rfl rfl rfl rfl (zC rfl rfl rfl rfl (zC rfl rfl rfl rfl (zC rfl rfl rfl rfl (zC rfl rfl rfl rfl (zC rfl rfl rfl rfl (zC rfl rfl rfl rfl (zC rfl rfl rfl rfl (zC rfl rfl rfl rfl (zC rfl rfl rfl rfl (zC rfl rfl rfl rfl (trivial)))))))))))), trivial⟩
            · have ho18 := cF hc ho18
              refine awp_exit ?_
              repeat (first | refine then_exit ?_ | refine cut_x ?_ | refine inBlock_other rfl ?_)
              refine inBlock_exit ?_
              cases ho18
              have hq := hE19 _ rfl
              subst hq
              exact cut_n [0, 1, 2] rfl rfl ⟨rfl, rfl, zA rfl rfl rfl (zA rfl rfl rfl (zA rfl rfl rfl (zA rfl rfl rfl (zA rfl rfl rfl (zA rfl rfl rfl (trivial)))))), zC rfl rfl rfl rfl (zC rfl rfl rfl rfl (zC rfl rfl rfl rfl (zC rfl rfl rfl rfl (zC rfl rfl rfl rfl (zC rfl rfl rfl rfl (zC rfl rfl rfl rfl (zC rfl rfl rfl rfl (zC rfl rfl rfl rfl (zC rfl rfl rfl rfl (zC rfl rfl rfl rfl (zC rfl rfl rfl rfl (trivial)))))))))))), trivial⟩
          · rintro _ rfl
            have h := ksl h
            change awp _ _ _ _ _ ⟨_, _, _, _⟩
            refine awp_seq ?_
            refine awp_region ?_
            refine rv rfl rfl ?_
            refine rn ?_
            refine awp_seq ?_
            refine awp_seq ?_
            refine awp_region ?_
            refine rv rfl rfl ?_
            refine rn ?_
            obtain ⟨o23, ho24, h⟩ := bi h
            refine awp_cut1 (fun x => x = o23) (fun (same1 : Bool) => ⟨[(0, .int .i64 s1), (4, .ptr 0 0), (5, .ptr 1 0), (7, .bool head1), (18, .bool same1)], [(0, 0, .int .i64 a1.X1), (0, 1, .int .i64 a1.Y1), (0, 2, .int .i64 a1.X2), (0, 3, .int .i64 a1.Y2), (1, 0, .int .i64 b1.X1), (1, 1, .int .i64 b1.Y1), (1, 2, .int .i64 b1.X2), (1, 3, .int .i64 b1.Y2)], [], 2⟩) ?_ ?_
            · refine cs_ rfl (fun hc => ?_) (fun hc => ?_)
              · have ho24 := cT hc ho24
                refine awp_dp (m := 5) Try.mix (by kernel_rfl) (by kernel_rfl) (by kernel_rfl) (by kernel_rfl) (by kernel_rfl) (by kernel_rfl) (by kernel_rfl) ?_
                refine dv rfl rfl (fun _ => rfl) ?_
                refine dv rfl rfl (fun _ => rfl) ?_
                obtain ⟨same2, hx25, ho24⟩ := bi ho24
                refine dc rfl rfl rfl rfl (fun _ => rfl) (fun _ => (dref01_Cover_l hx25)) ?_
                refine dv rfl rfl (fun _ => rfl) ?_
                refine dv rfl rfl (fun _ => rfl) ?_
                refine dn ?_
                refine rv rfl rfl ?_
                obtain ⟨same3, hx26, ho24⟩ := bs ho24
                refine rt (eb' hx26) ?_
                refine rn ?_
                cases ho24
                exact cut_n [0, 1] rfl rfl ⟨rfl, rfl, zA rfl rfl rfl (zA rfl rfl rfl (zA rfl rfl rfl (zA rfl rfl rfl (zA rfl rfl rfl (trivial))))), zC rfl rfl rfl rfl (zC rfl rfl rfl rfl (zC rfl rfl rfl rfl (zC rfl rfl rfl rfl (zC rfl rfl rfl rfl (zC rfl rfl rfl rfl (zC rfl rfl rfl rfl (zC rfl rfl rfl rfl (trivial)))))))), trivial⟩
              · have ho24 := cF hc ho24
                refine awp_skip ?_
                cases ho24
                exact cut_n [0, 1] rfl rfl ⟨rfl, rfl, zA rfl rfl rfl (zA rfl rfl rfl (zA rfl rfl rfl (zA rfl rfl rfl (zA rfl rfl rfl (trivial))))), zC rfl rfl rfl rfl (zC rfl rfl rfl rfl (zC rfl rfl rfl rfl (zC rfl rfl rfl rfl (zC rfl rfl rfl rfl (zC rfl rfl rfl rfl (zC rfl rfl rfl rfl (zC rfl rfl rfl rfl (trivial)))))))), trivial⟩
            · rintro same1 rfl
              change awp _ _ _ _ _ ⟨_, _, _, _⟩
              refine awp_seq ?_
              refine awp_region ?_
              refine rvs 2 rfl ?_
              refine gs rfl rfl rfl rfl rfl (fun hg => ?_) (fun hg => ?_)
              · have h := cT hg h
                refine rv rfl rfl ?_
                refine gy rfl rfl rfl ?_
                refine rv rfl rfl ?_
                refine gy rfl rfl rfl ?_
                refine rv rfl rfl ?_
                refine gy rfl rfl rfl ?_
                obtain ⟨x9, hx27, h⟩ := bi h
                refine rc1 rfl rfl rfl (dcover_Same_l hx27) ?_
                refine gy rfl rfl rfl ?_
                refine rv rfl rfl ?_
                refine gy rfl rfl rfl ?_
                refine rv rfl rfl ?_
                refine rvs 2 rfl ?_
                refine rn ?_
                refine awp_ret ?_
                cases h
                repeat (first | refine then_ret ?_ | refine inBlock_ret ?_ | refine cut_r ?_)
                exact rr rfl rfl rfl
              · have h := cF hg h
                refine gn rfl rfl rfl rfl rfl ?_
                refine gn rfl rfl rfl rfl rfl ?_
                refine gn rfl rfl rfl rfl rfl ?_
                refine gn rfl rfl rfl rfl rfl ?_
                refine gn rfl rfl rfl rfl rfl ?_
                refine rvs 2 rfl ?_
                refine rn ?_
                refine awp_ret ?_
                cases h
                repeat (first | refine then_ret ?_ | refine inBlock_ret ?_ | refine cut_r ?_)
                exact rr rfl rfl rfl
end

/-- `plover/ploverlaw05.CoverHolds` -/
def dlaw05_CoverHolds (fu : Nat) (s1 : Int) (a1 : tRect) (p1 : tPoint) : Option Bool :=
  (dlaw05_up fu ).bind fun head1 => (dcover_Box fu s1 a1).bind fun e1 => (dcover_Cells fu s1 a1).bind fun l1 => (bif e1.2.isSome then some true else some l1.2.isSome : Option Bool).bind fun (x1 : Bool) => (bif x1 then ((bif head1 then ((some ((l1.1.length : Int) == 0)).bind fun x3 => some x3) else some false : Option Bool).bind fun (x2 : Bool) => some x2) else ((dref01_Holds fu e1.1 a1).bind fun holds1 => (bif (!holds1) then some true else ((dcover_Same fu s1 a1 e1.1).bind fun x5 => some (!x5)) : Option Bool).bind fun (x4 : Bool) => (bif x4 then some false else ((dmorton_Cell fu s1 p1).bind fun x6 => (dmorton_Code fu x6.1 x6.2.1).bind fun n1 => (dref01_In fu a1 p1).bind fun in1 => (dref01_In fu e1.1 p1).bind fun box1 => (bif x6.2.2.isSome then some true else some n1.2.isSome : Option Bool).bind fun (x7 : Bool) => (bif x7 then ((bif head1 then some (!in1) else some false : Option Bool).bind fun (x8 : Bool) => some x8) else ((loopD (ε := Bool × Int) (τ := Bool ⊕ Bool) (fun (((met1, i1)) : Bool × Int) => (bif (decide (i1 < (l1.1.length : Int))) then ((bif met1 then some true else ((gi l1.1 i1).bind fun met5 => some (met5 == n1.1)) : Option Bool).bind fun (met4 : Bool) => ((bif (decide (i1 > 0)) then ((gi l1.1 i1).bind fun x10 => (gi l1.1 (W (i1 - 1))).bind fun x11 => some (decide (x10 ≤ x11))) else some false : Option Bool).bind fun (x9 : Bool) => (bif x9 then some (Sum.inr (Sum.inr false)) else some (Sum.inl (met4, W (i1 + 1)))))) else some (Sum.inr (Sum.inl met1)))) fu (false, 0)).bind fun o => kS o fun (met3 : Bool) => (bif head1 then (bif (met3 == box1) then (bif (!in1) then some true else some met3) else some false) else some false)))))))
section
attribute [local irreducible] awp aops DP PCall ACall Decidable.decide
theorem dlaw05_CoverHolds_l {fu : Nat} {s1 : Int} {a1 : tRect} {p1 : tPoint} {r : Bool} (h : dlaw05_CoverHolds fu s1 a1 p1 = some r) : PCall Try.prog 12 [.int .i64 s1, .agg [.int .i64 a1.X1, .int .i64 a1.Y1, .int .i64 a1.X2, .int .i64 a1.Y2], .agg [.int .i64 p1.X, .int .i64 p1.Y]] (· = .bool r) := by
  rw [dlaw05_CoverHolds] at h
  refine pcall_body Try.func12 rfl (by kernel_rfl) (by rfl) ?_
  refine awp_seq ?_
  refine awp_region ?_
  refine rb rfl rfl ?_
  refine rb rfl rfl ?_
  refine rv rfl rfl ?_
  refine rn ?_
  refine awp_seq ?_
  refine awp_region ?_
  obtain ⟨head1, hx1, h⟩ := bi h
  refine rc1 rfl rfl rfl (dlaw05_up_l hx1) ?_
  refine rv rfl rfl ?_
  refine rn ?_
  refine awp_seq ?_
  refine awp_region ?_
  refine rvs 2 rfl ?_
  obtain ⟨e1, hx2, h⟩ := bi h
  refine rc1 rfl rfl rfl (dcover_Box_l hx2) ?_
  refine rvs 3 rfl ?_
  refine ra rfl rfl rfl ?_
  refine rs rfl rfl rfl rfl rfl rfl rfl ?_
  refine rv rfl rfl ?_
  refine rn ?_
  refine awp_seq ?_
  refine awp_region ?_
  refine rvs 2 rfl ?_
  obtain ⟨l1, hx3, h⟩ := bi h
  refine rc1 rfl rfl rfl (dcover_Cells_l hx3) ?_
  refine rvs 5 rfl ?_
  refine rn ?_
  refine awp_seq ?_
  refine awp_seq ?_
  obtain ⟨o4, ho5, h⟩ := bi h
  refine awp_cut1 (fun x => x = o4) (fun (x1 : Bool) => ⟨[(0, .int .i64 s1), (4, .ptr 0 0), (5, .ptr 1 0), (7, .bool head1), (8, .ptr 2 0), (10, .sl (l1.1.map (cI .u64))), (40, .bool x1)], [(0, 0, .int .i64 a1.X1), (0, 1, .int .i64 a1.Y1), (0, 2, .int .i64 a1.X2), (0, 3, .int .i64 a1.Y2), (1, 0, .int .i64 p1.X), (1, 1, .int .i64 p1.Y), (2, 0, .int .i64 e1.1.X1), (2, 1, .int .i64 e1.1.Y1), (2, 2, .int .i64 e1.1.X2), (2, 3, .int .i64 e1.1.Y2)], [], 3⟩) ?_ ?_
  · refine awp_region ?_
    refine rv rfl rfl ?_
    refine rV rfl (va_ennil rfl rfl rfl) ?_
    refine rv rfl rfl ?_
    refine gs rfl rfl rfl rfl rfl (fun hg => ?_) (fun hg => ?_)
    · have ho5 := cF hg ho5
      refine rv rfl rfl ?_
      refine gy rfl rfl rfl ?_
      refine rV rfl (va_ennil rfl rfl rfl) ?_
      refine rv rfl rfl ?_
      refine rn ?_
      cases ho5
      exact cut_n [0, 1, 2] rfl rfl ⟨rfl, rfl, zA rfl rfl rfl (zA rfl rfl rfl (zA rfl rfl rfl (zA rfl rfl rfl (zA rfl rfl rfl (zA rfl rfl rfl (zA rfl rfl rfl (trivial))))))), zC rfl rfl rfl rfl (zC rfl rfl rfl rfl (zC rfl rfl rfl rfl (zC rfl rfl rfl rfl (zC rfl rfl rfl rfl (zC rfl rfl rfl rfl (zC rfl rfl rfl rfl (zC rfl rfl rfl rfl (zC rfl rfl rfl rfl (zC rfl rfl rfl rfl (trivial)))))))))), trivial⟩
    · have ho5 := cT hg ho5
      refine gn rfl rfl rfl rfl rfl ?_
      refine rv rfl rfl ?_
      refine rn ?_
      cases ho5
      exact cut_n [0, 1, 2] rfl rfl ⟨rfl, rfl, zA rfl rfl rfl (zA rfl rfl rfl (zA rfl rfl rfl (zA rfl rfl rfl (zA rfl rfl rfl (zA rfl rfl rfl (zA rfl rfl rfl (trivial))))))), zC rfl rfl rfl rfl (zC rfl rfl rfl rfl (zC rfl rfl rfl rfl (zC rfl rfl rfl rfl (zC rfl rfl rfl rfl (zC rfl rfl rfl rfl (zC rfl rfl rfl rfl (zC rfl rfl rfl rfl (zC rfl rfl rfl rfl (zC rfl rfl rfl rfl (trivial)))))))))), trivial⟩
  · rintro x1 rfl
    change awp _ _ _ _ _ ⟨_, _, _, _⟩
    refine cs_ rfl (fun hc => ?_) (fun hc => ?_)
    · have h := cT hc h
      refine awp_seq ?_
      obtain ⟨o6, ho7, h⟩ := bi h
      refine awp_cut1 (fun x => x = o6) (fun (x2 : Bool) => ⟨[(6, .bool x2)], [], [], 0⟩) ?_ ?_
      · refine awp_region ?_
        refine rvs 2 rfl ?_
        refine gs rfl rfl rfl rfl rfl (fun hg => ?_) (fun hg => ?_)
        · have ho7 := cT hg ho7
          refine rv rfl rfl ?_
          refine gy rfl rfl rfl ?_
          refine rv rfl rfl ?_
          refine rt ((lM (cI .u64) l1.1)) ?_
          refine gy rfl rfl rfl ?_
          refine rv rfl rfl ?_
          refine rvs 2 rfl ?_
          obtain ⟨x3, hx8, ho7⟩ := bs ho7
          refine rt (eb' hx8) ?_
          refine rn ?_
          cases ho7
          exact cut_n [] rfl rfl ⟨rfl, rfl, zA rfl rfl rfl (trivial), trivial, trivial⟩
        · have ho7 := cF hg ho7
          refine gn rfl rfl rfl rfl rfl ?_
          refine gn rfl rfl rfl rfl rfl ?_
          refine rvs 2 rfl ?_
          refine rn ?_
          cases ho7
          exact cut_n [] rfl rfl ⟨rfl, rfl, zA rfl rfl rfl (trivial), trivial, trivial⟩
      · rintro x2 rfl
        change awp _ _ _ _ _ ⟨_, _, _, _⟩
        refine awp_ret ?_
        cases h
        repeat (first | refine then_ret ?_ | refine inBlock_ret ?_ | refine cut_r ?_)
        exact rr rfl rfl rfl
    · have h := cF hc h
      refine awp_skip ?_
      refine awp_seq ?_
      refine awp_region ?_
      refine rvs 2 rfl ?_
      obtain ⟨holds1, hx9, h⟩ := bi h
      refine rc1 rfl rfl rfl (dref01_Holds_l hx9) ?_
      refine rv rfl rfl ?_
      refine rn ?_
      refine awp_seq ?_
      refine awp_seq ?_
      obtain ⟨o10, ho11, h⟩ := bi h
      refine awp_cut1 (fun x => x = o10) (fun (x4 : Bool) => ⟨[(0, .int .i64 s1), (4, .ptr 0 0), (5, .ptr 1 0), (7, .bool head1), (8, .ptr 2 0), (10, .sl (l1.1.map (cI .u64))), (58, .bool x4)], [(0, 0, .int .i64 a1.X1), (0, 1, .int .i64 a1.Y1), (0, 2, .int .i64 a1.X2), (0, 3, .int .i64 a1.Y2), (1, 0, .int .i64 p1.X), (1, 1, .int .i64 p1.Y), (2, 0, .int .i64 e1.1.X1), (2, 1, .int .i64 e1.1.Y1), (2, 2, .int .i64 e1.1.X2), (2, 3, .int .i64 e1.1.Y2)], [], 3⟩) ?_ ?_
      · refine awp_region ?_
        refine rvs 3 rfl ?_
        refine gs rfl rfl rfl rfl rfl (fun hg => ?_) (fun hg => ?_)
        · have ho11 := cF hg ho11
          refine rv rfl rfl ?_
          refine gy rfl rfl rfl ?_
          refine rv rfl rfl ?_
          refine gy rfl rfl rfl ?_
          refine rv rfl rfl ?_
          refine gy rfl rfl rfl ?_
          obtain ⟨x5, hx12, ho11⟩ := bi ho11
          refine rc1 rfl rfl rfl (dcover_Same_l hx12) ?_
          refine gy rfl rfl rfl ?_
          refine rv rfl rfl ?_
          refine rv rfl rfl ?_
          refine rn ?_
          cases ho11
          exact cut_n [0, 1, 2] rfl rfl ⟨rfl, rfl, zA rfl rfl rfl (zA rfl rfl rfl (zA rfl rfl rfl (zA rfl rfl rfl (zA rfl rfl rfl (zA rfl rfl rfl (zA rfl rfl rfl (trivial))))))), zC rfl rfl rfl rfl (zC rfl rfl rfl rfl (zC rfl rfl rfl rfl (zC rfl rfl rfl rfl (zC rfl rfl rfl rfl (zC rfl rfl rfl rfl (zC rfl rfl rfl rfl (zC rfl rfl rfl rfl (zC rfl rfl rfl rfl (zC rfl rfl rfl rfl (trivial)))))))))), trivial⟩
        · have ho11 := cT hg ho11
          refine gn rfl rfl rfl rfl rfl ?_
          refine gn rfl rfl rfl rfl rfl ?_
          refine gn rfl rfl rfl rfl rfl ?_
          refine gn rfl rfl rfl rfl rfl ?_
          refine rv rfl rfl ?_
          refine rn ?_
          cases ho11
          exact cut_n [0, 1, 2] rfl rfl ⟨rfl, rfl, zA rfl rfl rfl (zA rfl rfl rfl (zA rfl rfl rfl (zA rfl rfl rfl (zA rfl rfl rfl (zA rfl rfl rfl (zA rfl rfl rfl (trivial))))))), zC rfl rfl rfl rfl (zC rfl rfl rfl rfl (zC rfl rfl rfl rfl (zC rfl rfl rfl rfl (zC rfl rfl rfl rfl (zC rfl rfl rfl rfl (zC rfl rfl rfl rfl (zC rfl rfl rfl rfl (zC rfl rfl rfl rfl (zC rfl rfl rfl rfl (trivial)))))))))), trivial⟩
      · rintro x4 rfl
        change awp _ _ _ _ _ ⟨_, _, _, _⟩
        refine cs_ rfl (fun hc => ?_) (fun hc => ?_)
        · have h := cT hc h
          refine awp_seq ?_
          refine awp_region ?_
          refine rv rfl rfl ?_
          refine rn ?_
          refine awp_ret ?_
          cases h
          repeat (first | refine then_ret ?_ | refine inBlock_ret ?_ | refine cut_r ?_)
          exact rr rfl rfl rfl
        · have h := cF hc h
          refine awp_skip ?_
          refine awp_seq ?_
          refine awp_region ?_
          refine rvs 2 rfl ?_
          obtain ⟨x6, hx13, h⟩ := bi h
          refine rc1 rfl rfl rfl (dmorton_Cell_l hx13) ?_
          refine rvs 7 rfl ?_
          refine rn ?_
          refine awp_seq ?_
          refine awp_region ?_
          refine rvs 2 rfl ?_
          obtain ⟨n1, hx14, h⟩ := bi h
          refine rc1 rfl rfl rfl (dmorton_Code_l hx14) ?_
          refine rvs 5 rfl ?_
          refine rn ?_
          refine awp_seq ?_
          refine awp_region ?_
          refine rvs 2 rfl ?_
          obtain ⟨in1, hx15, h⟩ := bi h
          refine rc1 rfl rfl rfl (dref01_In_l hx15) ?_
          refine rv rfl rfl ?_
          refine rn ?_
          refine awp_seq ?_
          refine awp_region ?_
          refine rvs 2 rfl ?_
          obtain ⟨box1, hx16, h⟩ := bi h
          refine rc1 rfl rfl rfl (dref01_In_l hx16) ?_
          refine rv rfl rfl ?_
          refine rn ?_
          refine awp_seq ?_
          refine awp_seq ?_
          obtain ⟨o17, ho18, h⟩ := bi h
          refine awp_cut1 (fun x => x = o17) (fun (x7 : Bool) => ⟨[(7, .bool head1), (10, .sl (l1.1.map (cI .u64))), (16, .int .u64 n1.1), (18, .bool in1), (19, .bool box1), (83, .bool x7)], [], [], 0⟩) ?_ ?_
          · refine awp_region ?_
            refine rv rfl rfl ?_
            refine rV rfl (va_ennil rfl rfl rfl) ?_
            refine rv rfl rfl ?_
            refine gs rfl rfl rfl rfl rfl (fun hg => ?_) (fun hg => ?_)
            · have ho18 := cF hg ho18
              refine rv rfl rfl ?_
              refine gy rfl rfl rfl ?_
              refine rV rfl (va_ennil rfl rfl rfl) ?_
              refine rv rfl rfl ?_
              refine rn ?_
              cases ho18
              exact cut_n [] rfl rfl ⟨rfl, rfl, zA rfl rfl rfl (zA rfl rfl rfl (zA rfl rfl rfl (zA rfl rfl rfl (zA rfl rfl rfl (zA rfl rfl rfl (trivial)))))), trivial, trivial⟩
            · have ho18 := cT hg ho18
              refine gn rfl rfl rfl rfl rfl ?_
              refine rv rfl rfl ?_
              refine rn ?_
              cases ho18
              exact cut_n [] rfl rfl ⟨rfl, rfl, zA rfl rfl rfl (zA rfl rfl rfl (zA rfl rfl rfl (zA rfl rfl rfl (zA rfl rfl rfl (zA rfl rfl rfl (trivial)))))), trivial, trivial⟩
          · rintro x7 rfl
            change awp _ _ _ _ _ ⟨_, _, _, _⟩
            refine cs_ rfl (fun hc => ?_) (fun hc => ?_)
            · have h := cT hc h
              refine awp_seq ?_
              obtain ⟨o19, ho20, h⟩ := bi h
              refine awp_cut1 (fun x => x = o19) (fun (x8 : Bool) => ⟨[(6, .bool x8)], [], [], 0⟩) ?_ ?_
              · refine awp_region ?_
                refine rvs 2 rfl ?_
                refine gs rfl rfl rfl rfl rfl (fun hg => ?_) (fun hg => ?_)
                · have ho20 := cT hg ho20
                  refine rv rfl rfl ?_
                  refine gy rfl rfl rfl ?_
                  refine rv rfl rfl ?_
                  refine rvs 2 rfl ?_
                  refine rn ?_
                  cases ho20
                  exact cut_n [] rfl rfl ⟨rfl, rfl, zA rfl rfl rfl (trivial), trivial, trivial⟩
                · have ho20 := cF hg ho20
                  refine gn rfl rfl rfl rfl rfl ?_
                  refine rvs 2 rfl ?_
                  refine rn ?_
                  cases ho20
                  exact cut_n [] rfl rfl ⟨rfl, rfl, zA rfl rfl rfl (trivial), trivial, trivial⟩
              · rintro x8 rfl
                change awp _ _ _ _ _ ⟨_, _, _, _⟩
                refine awp_ret ?_
                cases h
                repeat (first | refine then_ret ?_ | refine inBlock_ret ?_ | refine cut_r ?_)
                exact rr rfl rfl rfl
            · have h := cF hc h
              refine awp_skip ?_
              refine awp_seq ?_
              refine awp_region ?_
              refine rv rfl rfl ?_
              refine rn ?_
              refine awp_seq ?_
              refine awp_seq ?_
              refine awp_region ?_
              refine rv rfl rfl ?_
              refine rn ?_
              obtain ⟨e21, hl22, h⟩ := bi h
              refine awp_cut1 (fun x => Sum.inl x = e21) (fun (met3 : Bool) => ⟨[(7, .bool head1), (18, .bool in1), (19, .bool box1), (20, .bool met3)], [], [], 0⟩) ?_ ?_
              · refine awp_block ?_
                refine awp_loopD hl22 (fun (((met1, i1)) : Bool × Int) => ⟨[(7, .bool head1), (10, .sl (l1.1.map (cI .u64))), (16, .int .u64 n1.1), (18, .bool in1), (19, .bool box1), (20, .bool met1), (21, .int .i64 i1)], [], [], 0⟩) [] rfl ⟨rfl, rfl, zA rfl rfl rfl (zA rfl rfl rfl (zA rfl rfl rfl (zA rfl rfl rfl (zA rfl rfl rfl (zA rfl rfl rfl (zA rfl rfl rfl (trivial))))))), trivial, trivial⟩ ?_
                intro v o25 ho23 hE24
                obtain ⟨met1, i1⟩ := v
                change awp _ _ _ _ _ ⟨_, _, _, _⟩
                refine awp_seq ?_
                refine awp_seq ?_
                refine awp_region ?_
                refine rvs 2 rfl ?_
                refine rv rfl rfl ?_
                refine rt ((lM (cI .u64) l1.1)) ?_
                refine rv rfl rfl ?_
                refine rn ?_
                refine cs_ rfl (fun hc => ?_) (fun hc => ?_)
                · have ho23 := cT hc ho23
                  refine awp_skip ?_
                  refine awp_seq ?_
                  refine awp_block ?_
                  refine awp_seq ?_
                  obtain ⟨o26, ho27, ho23⟩ := bi ho23
                  refine awp_cut1 (fun x => x = o26) (fun (met4 : Bool) => ⟨[(7, .bool head1), (10, .sl (l1.1.map (cI .u64))), (16, .int .u64 n1.1), (18, .bool in1), (19, .bool box1), (20, .bool met4), (21, .int .i64 i1)], [], [], 0⟩) ?_ ?_
                  · refine awp_region ?_
                    refine rvs 2 rfl ?_
                    refine gs rfl rfl rfl rfl rfl (fun hg => ?_) (fun hg => ?_)
                    · have ho27 := cF hg ho27
                      refine rv rfl rfl ?_
                      refine gy rfl rfl rfl ?_
                      refine rv rfl rfl ?_
                      refine gy rfl rfl rfl ?_
                      obtain ⟨met5, hx28, ho27⟩ := bi ho27
                      refine ri rfl rfl rfl rfl rfl rfl (gi0 hx28) (giM (cI .u64) hx28) (wM (fun _ => by rfl) _) ?_
                      refine gy rfl rfl rfl ?_
                      refine rv rfl rfl ?_
                      refine gy rfl rfl rfl ?_
                      refine rv rfl rfl ?_
                      refine gy rfl rfl rfl ?_
                      refine rv rfl rfl ?_
                      refine rvs 2 rfl ?_
                      refine rn ?_
                      cases ho27
                      exact cut_n [] rfl rfl ⟨rfl, rfl, zA rfl rfl rfl (zA rfl rfl rfl (zA rfl rfl rfl (zA rfl rfl rfl (zA rfl rfl rfl (zA rfl rfl rfl (zA rfl rfl rfl (trivial))))))), trivial, trivial⟩
                    · have ho27 := cT hg ho27
                      refine gn rfl rfl rfl rfl rfl ?_
                      refine gn rfl rfl rfl rfl rfl ?_
                      refine gn rfl rfl rfl rfl rfl ?_
                      refine gn rfl rfl rfl rfl rfl ?_
                      refine gn rfl rfl rfl rfl rfl ?_
                      refine rvs 2 rfl ?_
                      refine rn ?_
                      cases ho27
                      exact cut_n [] rfl rfl ⟨rfl, rfl, zA rfl rfl rfl (zA rfl rfl rfl (zA rfl rfl rfl (zA rfl rfl rfl (zA rfl rfl rfl (zA rfl rfl rfl (zA rfl rfl rfl (trivial))))))), trivial, trivial⟩
                  · rintro met4 rfl
                    change awp _ _ _ _ _ ⟨_, _, _, _⟩
                    refine awp_seq ?_
                    obtain ⟨o29, ho30, ho23⟩ := bi ho23
                    refine awp_cut1 (fun x => x = o29) (fun (x9 : Bool) => ⟨[(7, .bool head1), (10, .sl (l1.1.map (cI .u64))), (16, .int .u64 n1.1), (18, .bool in1), (19, .bool box1), (20, .bool met4), (21, .int .i64 i1), (117, .bool x9)], [], [], 0⟩) ?_ ?_
                    · refine awp_dp (m := 14) Try.mix (by kernel_rfl) (by kernel_rfl) (by kernel_rfl) (by kernel_rfl) (by kernel_rfl) (by kernel_rfl) (by kernel_rfl) ?_
                      refine dv rfl rfl (fun _ => rfl) ?_
                      refine dv rfl rfl (fun _ => rfl) ?_
                      refine dv rfl rfl (fun _ => rfl) ?_
                      refine ds rfl rfl (fun hg => ?_) (fun hg => ?_)
                      · have ho30 := cT hg ho30
                        refine dv rfl rfl (fun _ => rfl) ?_
                        refine dv rfl rfl (fun _ => rfl) ?_
                        obtain ⟨x10, hx31, ho30⟩ := bi ho30
                        refine di rfl rfl rfl rfl rfl (fun _ => rfl) rfl (gi0 hx31) (giM (cI .u64) hx31) (wM (fun _ => by rfl) _) ?_
                        refine dv rfl rfl (fun _ => rfl) ?_
                        refine dv rfl rfl (fun _ => rfl) ?_
                        refine dv rfl rfl (fun _ => rfl) ?_
                        refine dv rfl rfl (fun _ => rfl) ?_
                        obtain ⟨x11, hx32, ho30⟩ := bi ho30
                        refine di rfl rfl rfl rfl rfl (fun _ => rfl) rfl (gi0 hx32) (giM (cI .u64) hx32) (wM (fun _ => by rfl) _) ?_
                        refine dv rfl rfl (fun _ => rfl) ?_
                        refine dv rfl rfl (fun _ => rfl) ?_
                        refine dv rfl rfl (fun _ => rfl) ?_
                        refine dn ?_
                        refine rn ?_
                        cases ho30
                        exact cut_n [] rfl rfl ⟨rfl, rfl, zA rfl rfl rfl (zA rfl rfl rfl (zA rfl rfl rfl (zA rfl rfl rfl (zA rfl rfl rfl (zA rfl rfl rfl (zA rfl rfl rfl (zA rfl rfl rfl (trivial)))))))), trivial, trivial⟩
                      · have ho30 := cF hg ho30
                        refine dno rfl rfl ?_
                        refine dno rfl rfl ?_
                        refine dno rfl rfl ?_
                        refine dno rfl rfl ?_
                        refine dno rfl rfl ?_
                        refine dno rfl rfl ?_
                        refine dno rfl rfl ?_
                        refine dno rfl rfl ?_
                        refine dno rfl rfl ?_
                        refine dno rfl rfl ?_
                        refine dv rfl rfl (fun _ => rfl) ?_
                        refine dn ?_
                        refine rn ?_
                        cases ho30
                        exact cut_n [] rfl rfl ⟨rfl, rfl, zA rfl rfl rfl (zA rfl rfl rfl (zA rfl rfl rfl (zA rfl rfl rfl (zA rfl rfl rfl (zA rfl rfl rfl (zA rfl rfl rfl (zA rfl rfl rfl (trivial)))))))), trivial, trivial⟩
                    · rintro x9 rfl
                      change awp _ _ _ _ _ ⟨_, _, _, _⟩
                      refine cs_ rfl (fun hc => ?_) (fun hc => ?_)
                      · have ho23 := cT hc ho23
                        refine awp_seq ?_
                        refine awp_region ?_
                        refine rv rfl rfl ?_
                        refine rn ?_
                        refine awp_ret ?_
                        cases ho23
                        have hq := hE24 _ rfl
                        subst hq
                        have h := ksr h
                        subst h
                        repeat (first | refine then_ret ?_ | refine inBlock_ret ?_ | refine cut_r ?_)
                        exact rr rfl rfl rfl
                      · have ho23 := cF hc ho23
                        refine awp_skip ?_
                        refine inBlock_normal ?_
                        refine awp_region ?_
                        refine rvs 3 rfl ?_
                        refine rn ?_
                        cases ho23
                        exact lp_n [] rfl rfl ⟨rfl, rfl, zA rfl rfl rfl (zA rfl rfl rfl (zA rfl rfl rfl (zA rfl rfl rfl (zA rfl rfl rfl (zA rfl rfl rfl (zA rfl rfl rfl (trivial))))))), trivial, trivial⟩
                · have ho23 := cF hc ho23
                  refine awp_exit ?_
                  repeat (first | refine then_exit ?_ | refine cut_x ?_ | refine inBlock_other rfl ?_)
                  refine inBlock_exit ?_
                  cases ho23
                  have hq := hE24 _ rfl
                  subst hq
                  exact cut_n [] rfl rfl ⟨rfl, rfl, zA rfl rfl rfl (zA rfl rfl rfl (zA rfl rfl rfl (zA rfl rfl rfl (trivial)))), trivial, trivial⟩
              · rintro met3 rfl
                have h := ksl h
                change awp _ _ _ _ _ ⟨_, _, _, _⟩
                refine awp_seq ?_
                refine awp_region ?_
                refine rvs 2 rfl ?_
                refine gs rfl rfl rfl rfl rfl (fun hg => ?_) (fun hg => ?_)
                · have h := cT hg h
                  refine rv rfl rfl ?_
                  refine gy rfl rfl rfl ?_
                  refine rv rfl rfl ?_
                  refine gy rfl rfl rfl ?_
                  refine rv rfl rfl ?_
                  refine rvs 2 rfl ?_
                  refine gs rfl rfl rfl rfl rfl (fun hg => ?_) (fun hg => ?_)
                  · have h := cT hg h
                    refine rv rfl rfl ?_
                    refine gy rfl rfl rfl ?_
                    refine rv rfl rfl ?_
                    refine gy rfl rfl rfl ?_
                    refine rv rfl rfl ?_
                    refine gs rfl rfl rfl rfl rfl (fun hg => ?_) (fun hg => ?_)
                    · have h := cF hg h
                      refine rv rfl rfl ?_
                      refine gy rfl rfl rfl ?_
                      refine rv rfl rfl ?_
                      refine rvs 2 rfl ?_
                      refine rn ?_
                      refine awp_ret ?_
                      cases h
                      repeat (first | refine then_ret ?_ | refine inBlock_ret ?_ | refine cut_r ?_)
                      exact rr rfl rfl rfl
                    · have h := cT hg h
                      refine gy rfl rfl rfl ?_
                      refine rv rfl rfl ?_
                      refine rvs 2 rfl ?_
                      refine rn ?_
                      refine awp_ret ?_
                      cases h
                      repeat (first | refine then_ret ?_ | refine inBlock_ret ?_ | refine cut_r ?_)
                      exact rr rfl rfl rfl
                  · have h := cF hg h
                    refine gn rfl rfl rfl rfl rfl ?_
                    refine gn rfl rfl rfl rfl rfl ?_
                    refine gu rfl rfl rfl rfl ?_
                    refine gn rfl rfl rfl rfl rfl ?_
                    refine rvs 2 rfl ?_
                    refine rn ?_
                    refine awp_ret ?_
                    cases h
                    repeat (first | refine then_ret ?_ | refine inBlock_ret ?_ | refine cut_r ?_)
                    exact rr rfl rfl rfl
                · have h := cF hg h
                  refine gn rfl rfl rfl rfl rfl ?_
                  refine gn rfl rfl rfl rfl rfl ?_
                  refine rvs 2 rfl ?_
                  refine gn rfl rfl rfl rfl rfl ?_
                  refine gn rfl rfl rfl rfl rfl ?_
                  refine gn rfl rfl rfl rfl rfl ?_
                  refine gu rfl rfl rfl rfl ?_
                  refine gn rfl rfl rfl rfl rfl ?_
                  refine rvs 2 rfl ?_
                  refine rn ?_
                  refine awp_ret ?_
                  cases h
                  repeat (first | refine then_ret ?_ | refine inBlock_ret ?_ | refine cut_r ?_)
                  exact rr rfl rfl rfl
end

end Go.Proofs.Ytngeejjllgnpcaa
