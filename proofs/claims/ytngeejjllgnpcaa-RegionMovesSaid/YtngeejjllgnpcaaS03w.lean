/- Contracts, printed by a program of this session's. -/
import Derived.Test.YtngeejjllgnpcaaS03v
namespace Go.Proofs.Ytngeejjllgnpcaa
open Go.Pv
set_option maxRecDepth 100000
set_option maxHeartbeats 4000000
set_option linter.unusedSimpArgs false
set_option linter.unusedVariables false
set_option linter.unusedSectionVars false

def par (l : List Pt) (p : Pt) (i : Nat) : Bool := decide (cnt p ((edges l).take i) % 2 = 1)
theorem edges_succ {l : List Pt} {i : Nat} (h : i < l.length) : (edges l).take (i + 1) = (edges l).take i ++ [(gp l i, gp l (i + 1))] := by
  rw [List.take_add_one, edges_get h]; rfl
theorem edges_all (l : List Pt) {i : Nat} (h : i ≤ l.length) (hn : ¬ i < l.length) : (edges l).take i = edges l := by
  rw [List.take_of_length_le]; rw [edges_len]; omega
theorem par_0 (l : List Pt) (p : Pt) : par l p 0 = false := by simp [par, cnt]
theorem par_no {l : List Pt} {p : Pt} {i : Nat} (h : i < l.length) (ht : tog p (gp l i, gp l (i + 1)) = false) : par l p (i + 1) = par l p i := by
  unfold par cnt; rw [edges_succ h, List.countP_append]; simp [ht]
theorem par_yes {l : List Pt} {p : Pt} {i : Nat} (h : i < l.length) (ht : tog p (gp l i, gp l (i + 1)) = true) : par l p (i + 1) = !par l p i := by
  unfold par cnt; rw [edges_succ h, List.countP_append]; simp only [List.countP_cons, List.countP_nil, ht, if_pos]
  rw [Bool.eq_iff_iff]; simp; omega
theorem tog_1 {a b p : Pt} (h : (decide (a.2 > p.2) == decide (b.2 > p.2)) = true) : tog p (a, b) = false := by
  unfold tog; simp only [bne, h]; rfl
theorem tog_2 {a b p : Pt} {u : Bool} (h : (decide (a.2 > p.2) == decide (b.2 > p.2)) = false) (k : (decide (b.2 > a.2) == decide (turnV a.1 a.2 b.1 b.2 p.1 p.2 > 0)) = u) : tog p (a, b) = u := by
  unfold tog tn; simp only [bne, h, k]; cases u <;> rfl
def onE (p : Pt) (e : Pt × Pt) : Bool := on e.1 e.2 p
def noOn (l : List Pt) (p : Pt) (i : Nat) : Prop := i ≤ l.length ∧ ((edges l).take i).any (onE p) = false
theorem noOn_0 (l : List Pt) (p : Pt) : noOn l p 0 := ⟨Nat.zero_le _, by simp⟩
theorem noOn_step {l : List Pt} {p : Pt} {i : Nat} (h : noOn l p i) (hl : i < l.length) (hn : onV (gp l i).1 (gp l i).2 (gp l (i + 1)).1 (gp l (i + 1)).2 p.1 p.2 = false) : noOn l p (i + 1) :=
  ⟨hl, by rw [edges_succ hl, List.any_append, h.2]; simp [onE, on, hn]⟩
theorem in_on {l : List Pt} {p : Pt} {i : Nat} (hl : i < l.length) (h : onV (gp l i).1 (gp l i).2 (gp l (i + 1)).1 (gp l (i + 1)).2 p.1 p.2 = true) : AV.bool true = AV.bool (inE l p) := by
  have : (edges l).any (fun e => on e.1 e.2 p) = true := List.any_eq_true.2 ⟨_, ix_edge hl, h⟩
  unfold inE; rw [this]; rfl
theorem in_end {l : List Pt} {p : Pt} {i : Nat} (hi : noOn l p i) (hn : ¬ i < l.length) : par l p i = inE l p := by
  have h2 : (edges l).any (fun e => on e.1 e.2 p) = false := by rw [← edges_all l hi.1 hn]; exact hi.2
  unfold inE par; rw [h2, edges_all l hi.1 hn]; rfl
/-! numbers -/
abbrev U (n : Int) : Int := IntKind.wrap .u64 n
theorem U_eq (n : Int) : U n = n % 18446744073709551616 := by
  have e : (2 : Int) ^ IntKind.u64.bits = 18446744073709551616 := by decide
  simp [U, IntKind.wrap, e, IntKind.signed]
theorem W_emod (n : Int) : W n % 18446744073709551616 = n % 18446744073709551616 := by
  have e : (2 : Int) ^ IntKind.i64.bits = 18446744073709551616 := by decide
  have e' : (2 : Int) ^ (IntKind.i64.bits - 1) = 9223372036854775808 := by decide
  simp only [W, IntKind.wrap, e, e', IntKind.signed, Bool.true_and, decide_eq_true_eq]
  split <;> omega
theorem mul_emodM {x y x' y' : Int} (h : x % 18446744073709551616 = x' % 18446744073709551616) (k : y % 18446744073709551616 = y' % 18446744073709551616) : (x * y) % 18446744073709551616 = (x' * y') % 18446744073709551616 := by
  rw [Int.mul_emod, h, k, ← Int.mul_emod]
def tw (l : List Pt) (i : Nat) : Int := U (isum (((edges l).take i).map crz))
def twA (z : Int) : Int := if U (0 - U z) < U z then U (0 - U z) else U z
theorem tw_end {l : List Pt} {i : Nat} (hi : i ≤ l.length) (hn : ¬ i < l.length) : tw l i = U (area2 l) := by unfold tw area2; rw [edges_all l hi hn]
theorem isum_one (a : List Int) (x : Int) : isum (a ++ [x]) = isum a + x := by rw [isum_append]; simp [isum]
theorem tw_0 (l : List Pt) : 0 = tw l 0 := by unfold tw; rw [List.take_zero]; rfl
theorem tw_succ {l : List Pt} {i : Nat} (h : i < l.length) : U (tw l i + U (W (W ((gp l i).1 * (gp l (i + 1)).2) - W ((gp l i).2 * (gp l (i + 1)).1)))) = tw l (i + 1) := by
  unfold tw
  rw [edges_succ h, List.map_append, List.map_cons, List.map_nil, isum_one]
  generalize isum _ = s
  show U (U s + U (W (W ((gp l i).1 * (gp l (i + 1)).2) - W ((gp l i).2 * (gp l (i + 1)).1)))) = U (s + ((gp l i).1 * (gp l (i + 1)).2 - (gp l i).2 * (gp l (i + 1)).1))
  generalize (gp l i).1 * (gp l (i + 1)).2 = x, (gp l i).2 * (gp l (i + 1)).1 = y
  have h1 := W_emod x; have h2 := W_emod y; have h3 := W_emod (W x - W y)
  rw [U_eq, U_eq, U_eq, U_eq]; omega
def rtw (l : List Pt) (i : Nat) : Int := U (isum (((edges (l.map (mv (1073741824, 1073741824)))).take i).map crz))
theorem gp_map (d : Pt) {l : List Pt} (h : 0 < l.length) (i : Nat) : gp (l.map (mv d)) i = mv d (gp l i) := by
  have hlt := Nat.mod_lt i h
  rw [← gp_mod l i, gp_lt hlt, ← gp_mod (l.map (mv d)) i, List.length_map, gp_lt (by simpa using hlt)]; simp
theorem rtw_0 (l : List Pt) : 0 = rtw l 0 := by unfold rtw; rw [List.take_zero]; rfl
theorem rtw_succ {l : List Pt} {i : Nat} (h : i < l.length) : U (U (rtw l i + U (W (W ((gp l i).1 + 1073741824) * W ((gp l (i + 1)).2 + 1073741824)))) - U (W (W ((gp l i).2 + 1073741824) * W ((gp l (i + 1)).1 + 1073741824)))) = rtw l (i + 1) := by
  unfold rtw
  rw [edges_succ (by simpa using h), List.map_append, List.map_cons, List.map_nil, isum_one, gp_map _ (by omega), gp_map _ (by omega)]
  generalize isum _ = s
  show _ = U (s + (((gp l i).1 + 1073741824) * ((gp l (i + 1)).2 + 1073741824) - ((gp l i).2 + 1073741824) * ((gp l (i + 1)).1 + 1073741824)))
  generalize (gp l i).1 + 1073741824 = x, (gp l (i + 1)).2 + 1073741824 = y, (gp l i).2 + 1073741824 = z, (gp l (i + 1)).1 + 1073741824 = t
  have h1 := mul_emodM (W_emod x) (W_emod y); have h2 := mul_emodM (W_emod z) (W_emod t)
  have h3 := W_emod (W x * W y); have h4 := W_emod (W z * W t)
  generalize W x * W y = p, W z * W t = q at h1 h2 h3 h4 ⊢
  generalize x * y = p', z * t = q' at h1 h2 ⊢
  rw [U_eq, U_eq, U_eq, U_eq, U_eq, U_eq]; omega
theorem rtw_end {l : List Pt} {i : Nat} (hi : i ≤ l.length) (hn : ¬ i < l.length) : rtw l i = U (area2 l) := by
  rw [← area_mv (1073741824, 1073741824) l]; unfold rtw area2
  rw [edges_all _ (by simpa using hi) (by simpa using hn)]
theorem U_rng (n : Int) : 0 ≤ U n ∧ U n < 18446744073709551616 := by rw [U_eq]; omega
theorem rtw_1 {z : Int} (h : decide (U z > 9223372036854775808) = true) : U (U (18446744073709551615 - U z) + 1) = twA z := by
  have hr := U_rng z
  simp only [decide_eq_true_eq] at h
  unfold twA
  generalize U z = u at *
  rw [U_eq, U_eq, U_eq]; split <;> omega
theorem rtw_2 {z : Int} (h : decide (U z > 9223372036854775808) = false) : U z = twA z := by
  have hr := U_rng z
  simp only [decide_eq_false_iff_not] at h
  unfold twA
  generalize U z = u at *
  rw [U_eq]; split <;> omega
theorem twA_neg (z : Int) : twA (-z) = twA z := by
  unfold twA; simp only [U_eq]; split <;> split <;> omega
/-! moved -/
def mvW (d p : Pt) : Pt := (W (p.1 + d.1), W (p.2 + d.2))
def addA (d : Pt) (p : Pt) : Bool := addB p.1 p.2 d.1 d.2
theorem mvW_eq {d p : Pt} (h : addA d p = true) : mvW d p = mv d p ∧ my (mv d p) = true := by
  obtain ⟨_, _, e1, e2, m⟩ := may_add h
  unfold mvW mv
  rw [e1, e2]; exact ⟨rfl, m⟩
def moveT (l : List Pt) (d : Pt) : AV := match simpB l, l.all (addA d) with
  | true, true => .tup [.sl (rows (l.map (mvW d))), .nilI]
  | true, false => .tup [.sl [], .iface 35 (.int .i64 11)]
  | false, _ => .tup [.sl [], .iface 35 (.int .i64 1)]
theorem rows_plain (l : List Pt) : Plain 2 (rows l) := Plain.map (f := pr) (fun _ => ⟨rfl, rfl, rfl⟩) l
theorem pr_plain (x y : Int) : Plain 2 [[AV.int .i64 x, .int .i64 y]] := fun r hr => by
  obtain rfl : r = [AV.int .i64 x, .int .i64 y] := by simpa using hr
  exact ⟨rfl, rfl, rfl⟩
def allA (l : List Pt) (d : Pt) (i : Nat) : Prop := i ≤ l.length ∧ (l.take i).all (addA d) = true
theorem allA_step {l : List Pt} {d : Pt} {i : Nat} (h : allA l d i) (hl : i < l.length) (ha : addB (gp l i).1 (gp l i).2 d.1 d.2 = true) : allA l d (i + 1) :=
  ⟨hl, by rw [List.take_add_one, List.getElem?_eq_getElem hl, List.all_append, h.2]; rw [gp_lt hl] at ha; simp [addA, ha]⟩
theorem mv_1 {l : List Pt} {d : Pt} (h : (!simpB l) = true) : AV.tup [.sl [], .iface 35 (.int .i64 1)] = moveT l d := by
  unfold moveT; rw [show simpB l = false by simpa using h]
theorem mv_2 {l : List Pt} {d : Pt} {i : Nat} (h : (!simpB l) = false) (hl : i < l.length) (ha : addB (gp l i).1 (gp l i).2 d.1 d.2 = false) : AV.tup [.sl [], .iface 35 (.int .i64 11)] = moveT l d := by
  have : l.all (addA d) = false := by
    rw [Bool.eq_false_iff]; intro h2
    have := List.all_eq_true.1 h2 _ (gp_mem (by omega) i)
    unfold addA at this; rw [ha] at this; cases this
  unfold moveT; rw [show simpB l = true by simpa using h, this]
theorem mv_3 {l : List Pt} {d : Pt} {i : Nat} (h : (!simpB l) = false) (hi : allA l d i) (hn : ¬ i < l.length) : AV.tup [.sl (rows ((l.take i).map (mvW d))), .nilI] = moveT l d := by
  have e : i = l.length := by have := hi.1; omega
  subst e
  have := hi.2
  rw [List.take_length] at this ⊢
  unfold moveT; rw [show simpB l = true by simpa using h, this]
theorem mv_succ {l : List Pt} {d : Pt} {i : Nat} (hl : i < l.length) : rows ((l.take i).map (mvW d)) ++ [[AV.int .i64 (W ((gp l i).1 + d.1)), .int .i64 (W ((gp l i).2 + d.2))]] = rows ((l.take (i + 1)).map (mvW d)) := by
  rw [List.take_add_one, List.getElem?_eq_getElem hl, gp_lt hl]; simp only [rows, List.map_append]; rfl

section
attribute [local irreducible] awp aops DP PCall ACall Decidable.decide Nat.mod onV turnV par inE noOn
/-- `plover/poly.In` -/
theorem in_c {l : List Pt} {p : Pt} (hl : l.length ≤ maxLen) : PCall Try.prog 19 [.sl (rows l), .agg [.int .i64 (p).1, .int .i64 (p).2]] (· = .bool (inE l p)) := by
  refine pcall_body Try.func19 rfl (by kernel_rfl) (by rfl) ?_
  refine awp_seq ?_
  refine awp_region ?_
  refine rb rfl rfl (?_)
  refine rv rfl rfl (?_)
  refine rn ?_
  refine then_normal ?_
  refine awp_seq ?_
  refine awp_region ?_
  refine rv rfl rfl (?_)
  refine rn ?_
  refine then_normal ?_
  refine awp_seq ?_
  refine awp_seq ?_
  refine awp_region ?_
  refine rv rfl rfl (?_)
  refine rv rfl rfl (?_)
  refine rv rfl rfl (?_)
  refine rn ?_
  refine then_normal ?_
  refine awp_block ?_
  refine awp_loop (ι := Nat) (fun i => ⟨[(0, .sl (rows l)), (3, .ptr 0 0), (4, .bool false), (5, .bool (par l p i)), (10, .sl (rows l)), (11, .int .i64 ((rows l).length : Int)), (12, .int .i64 (i : Int))], [(0, 0, .int .i64 p.1), (0, 1, .int .i64 p.2)], [], 1⟩) (fun i => noOn l p i) (fun i => l.length - i) (0) (noOn_0 l p) ?_ (fun _ => Nat.zero_le _) (fun i hi => ?_)
  · refine ⟨Nat.le_of_ble_eq_true rfl, ?_, ?_, ?_⟩
    · refine ⟨⟨?_, rfl⟩, ?_⟩
      · first | rfl | ((first | refine ei ?_ | refine eh ?_ | refine eb ?_ | refine ehb ?_ | skip); exact (par_0 l p).symm)
      refine ⟨⟨?_, rfl⟩, ?_⟩
      · first | rfl | ((first | refine ei ?_ | refine eh ?_ | refine eb ?_ | refine ehb ?_ | skip); exact (par_0 l p).symm)
      refine ⟨⟨?_, rfl⟩, ?_⟩
      · first | rfl | ((first | refine ei ?_ | refine eh ?_ | refine eb ?_ | refine ehb ?_ | skip); exact (par_0 l p).symm)
      refine ⟨⟨?_, rfl⟩, ?_⟩
      · first | rfl | ((first | refine ei ?_ | refine eh ?_ | refine eb ?_ | refine ehb ?_ | skip); exact (par_0 l p).symm)
      refine ⟨⟨?_, rfl⟩, ?_⟩
      · first | rfl | ((first | refine ei ?_ | refine eh ?_ | refine eb ?_ | refine ehb ?_ | skip); exact (par_0 l p).symm)
      refine ⟨⟨?_, rfl⟩, ?_⟩
      · first | rfl | ((first | refine ei ?_ | refine eh ?_ | refine eb ?_ | refine ehb ?_ | skip); exact (par_0 l p).symm)
      refine ⟨⟨?_, rfl⟩, ?_⟩
      · first | rfl | ((first | refine ei ?_ | refine eh ?_ | refine eb ?_ | refine ehb ?_ | skip); exact (par_0 l p).symm)
      exact trivial
    · refine ⟨⟨?_, rfl, rfl⟩, ?_⟩
      · first | rfl | ((first | refine ei ?_ | refine eh ?_ | refine eb ?_ | refine ehb ?_ | skip); exact (par_0 l p).symm)
      refine ⟨⟨?_, rfl, rfl⟩, ?_⟩
      · first | rfl | ((first | refine ei ?_ | refine eh ?_ | refine eb ?_ | refine ehb ?_ | skip); exact (par_0 l p).symm)
      exact trivial
    · exact trivial
  refine awp_seq ?_
  refine awp_region ?_
  refine rv rfl rfl (?_)
  refine rn ?_
  refine then_normal ?_
  refine awp_seq ?_
  refine cs_ rfl (fun hc => ?_) (fun hc => ?_)
  · first
    | (cases hc; done)
    | (
      refine awp_skip ?_
      refine then_normal ?_
      refine awp_seq ?_
      refine awp_block ?_
      refine awp_seq ?_
      (have hlt := lt_len hc) <;> (
      refine awp_region ?_
      refine rv rfl rfl (?_)
      refine ri rfl rfl rfl rfl rfl rfl (Int.natCast_nonneg _) (rows_i hlt) (rows_wide l) (?_)
      refine rv rfl rfl (?_)
      refine ra rfl rfl rfl (?_)
      refine rv rfl rfl (?_)
      refine rs rfl rfl rfl rfl rfl rfl rfl (?_)
      refine rn ?_
      refine then_normal ?_
      refine awp_seq ?_
      refine awp_region ?_
      refine rv rfl rfl (?_)
      refine rv rfl rfl (?_)
      refine rc1 rfl rfl rfl (next_c (by omega) (by omega)) (?_)
      refine ra rfl rfl rfl (?_)
      refine rs rfl rfl rfl rfl rfl rfl rfl (?_)
      refine rn ?_
      refine then_normal ?_
      refine awp_seq ?_
      refine awp_seq ?_
      refine awp_region ?_
      refine rv rfl rfl (?_)
      refine rv rfl rfl (?_)
      refine rv rfl rfl (?_)
      refine rc1 rfl rfl rfl on_c (?_)
      refine rn ?_
      refine then_normal ?_
      refine cs_ rfl (fun hc => ?_) (fun hc => ?_)
      · first
        | (cases hc; done)
        | (
          refine awp_seq ?_
          refine awp_region ?_
          refine rv rfl rfl (?_)
          refine rn ?_
          refine then_normal ?_
          refine awp_ret ?_
          repeat (first | refine then_ret ?_ | refine inBlock_ret ?_)
          refine rr rfl rfl ?_
          first | exact in_on hlt (by assumption) | exact eb (in_end hi (not_lt_len hc)) | trace_state)
      · first
        | (cases hc; done)
        | (
          refine awp_skip ?_
          refine then_normal ?_
          refine awp_seq ?_
          refine awp_seq ?_
          refine awp_region ?_
          refine rv rfl rfl (?_)
          refine rv rfl rfl (?_)
          refine rv rfl rfl (?_)
          refine rv rfl rfl (?_)
          refine rv rfl rfl (?_)
          refine rv rfl rfl (?_)
          refine rv rfl rfl (?_)
          refine rv rfl rfl (?_)
          refine rv rfl rfl (?_)
          refine rv rfl rfl (?_)
          refine rv rfl rfl (?_)
          refine rn ?_
          refine then_normal ?_
          refine cs_ rfl (fun hc => ?_) (fun hc => ?_)
          · first
            | (cases hc; done)
            | (
              refine awp_exit ?_
              repeat (first | refine then_exit ?_ | refine inBlock_other rfl ?_)
              refine inBlock_exit ?_
              refine then_normal ?_
              refine awp_region ?_
              refine rv rfl rfl (?_)
              refine rv rfl rfl (?_)
              refine rn ?_
              refine then_normal ?_
              refine ⟨i + 1, noOn_step hi hlt (by assumption), by omega, ?_⟩
              refine ⟨Nat.le_of_ble_eq_true rfl, ?_, ?_, ?_⟩
              · refine ⟨⟨?_, rfl⟩, ?_⟩
                · first | rfl | ((first | refine ei ?_ | refine eh ?_ | refine eb ?_ | refine ehb ?_ | skip); first | exact W_succ hlt hl | exact (par_no hlt (tog_1 (by assumption))).symm | exact (par_no hlt (tog_2 (by assumption) (by assumption))).symm | exact (par_yes hlt (tog_2 (by assumption) (by assumption))).symm)
                refine ⟨⟨?_, rfl⟩, ?_⟩
                · first | rfl | ((first | refine ei ?_ | refine eh ?_ | refine eb ?_ | refine ehb ?_ | skip); first | exact W_succ hlt hl | exact (par_no hlt (tog_1 (by assumption))).symm | exact (par_no hlt (tog_2 (by assumption) (by assumption))).symm | exact (par_yes hlt (tog_2 (by assumption) (by assumption))).symm)
                refine ⟨⟨?_, rfl⟩, ?_⟩
                · first | rfl | ((first | refine ei ?_ | refine eh ?_ | refine eb ?_ | refine ehb ?_ | skip); first | exact W_succ hlt hl | exact (par_no hlt (tog_1 (by assumption))).symm | exact (par_no hlt (tog_2 (by assumption) (by assumption))).symm | exact (par_yes hlt (tog_2 (by assumption) (by assumption))).symm)
                refine ⟨⟨?_, rfl⟩, ?_⟩
                · first | rfl | ((first | refine ei ?_ | refine eh ?_ | refine eb ?_ | refine ehb ?_ | skip); first | exact W_succ hlt hl | exact (par_no hlt (tog_1 (by assumption))).symm | exact (par_no hlt (tog_2 (by assumption) (by assumption))).symm | exact (par_yes hlt (tog_2 (by assumption) (by assumption))).symm)
                refine ⟨⟨?_, rfl⟩, ?_⟩
                · first | rfl | ((first | refine ei ?_ | refine eh ?_ | refine eb ?_ | refine ehb ?_ | skip); first | exact W_succ hlt hl | exact (par_no hlt (tog_1 (by assumption))).symm | exact (par_no hlt (tog_2 (by assumption) (by assumption))).symm | exact (par_yes hlt (tog_2 (by assumption) (by assumption))).symm)
                refine ⟨⟨?_, rfl⟩, ?_⟩
                · first | rfl | ((first | refine ei ?_ | refine eh ?_ | refine eb ?_ | refine ehb ?_ | skip); first | exact W_succ hlt hl | exact (par_no hlt (tog_1 (by assumption))).symm | exact (par_no hlt (tog_2 (by assumption) (by assumption))).symm | exact (par_yes hlt (tog_2 (by assumption) (by assumption))).symm)
                refine ⟨⟨?_, rfl⟩, ?_⟩
                · first | rfl | ((first | refine ei ?_ | refine eh ?_ | refine eb ?_ | refine ehb ?_ | skip); first | exact W_succ hlt hl | exact (par_no hlt (tog_1 (by assumption))).symm | exact (par_no hlt (tog_2 (by assumption) (by assumption))).symm | exact (par_yes hlt (tog_2 (by assumption) (by assumption))).symm)
                exact trivial
              · refine ⟨⟨?_, rfl, rfl⟩, ?_⟩
                · first | rfl | ((first | refine ei ?_ | refine eh ?_ | refine eb ?_ | refine ehb ?_ | skip); first | exact W_succ hlt hl | exact (par_no hlt (tog_1 (by assumption))).symm | exact (par_no hlt (tog_2 (by assumption) (by assumption))).symm | exact (par_yes hlt (tog_2 (by assumption) (by assumption))).symm)
                refine ⟨⟨?_, rfl, rfl⟩, ?_⟩
                · first | rfl | ((first | refine ei ?_ | refine eh ?_ | refine eb ?_ | refine ehb ?_ | skip); first | exact W_succ hlt hl | exact (par_no hlt (tog_1 (by assumption))).symm | exact (par_no hlt (tog_2 (by assumption) (by assumption))).symm | exact (par_yes hlt (tog_2 (by assumption) (by assumption))).symm)
                exact trivial
              · exact trivial)
          · first
            | (cases hc; done)
            | (
              refine awp_skip ?_
              refine then_normal ?_
              refine awp_seq ?_
              refine awp_region ?_
              refine rv rfl rfl (?_)
              refine rv rfl rfl (?_)
              refine rv rfl rfl (?_)
              refine rv rfl rfl (?_)
              refine rv rfl rfl (?_)
              refine rv rfl rfl (?_)
              refine rn ?_
              refine then_normal ?_
              refine awp_seq ?_
              refine awp_region ?_
              refine rv rfl rfl (?_)
              refine rv rfl rfl (?_)
              refine rv rfl rfl (?_)
              refine rv rfl rfl (?_)
              refine rc1 rfl rfl rfl turn_c (?_)
              refine rv rfl rfl (?_)
              refine rv rfl rfl (?_)
              refine rn ?_
              refine then_normal ?_
              refine cs_ rfl (fun hc => ?_) (fun hc => ?_)
              · first
                | (cases hc; done)
                | (
                  refine awp_region ?_
                  refine rv rfl rfl (?_)
                  refine rv rfl rfl (?_)
                  refine rv rfl rfl (?_)
                  refine rn ?_
                  refine inBlock_normal ?_
                  refine then_normal ?_
                  refine awp_region ?_
                  refine rv rfl rfl (?_)
                  refine rv rfl rfl (?_)
                  refine rn ?_
                  refine then_normal ?_
                  refine ⟨i + 1, noOn_step hi hlt (by assumption), by omega, ?_⟩
                  refine ⟨Nat.le_of_ble_eq_true rfl, ?_, ?_, ?_⟩
                  · refine ⟨⟨?_, rfl⟩, ?_⟩
                    · first | rfl | ((first | refine ei ?_ | refine eh ?_ | refine eb ?_ | refine ehb ?_ | skip); first | exact W_succ hlt hl | exact (par_no hlt (tog_1 (by assumption))).symm | exact (par_no hlt (tog_2 (by assumption) (by assumption))).symm | exact (par_yes hlt (tog_2 (by assumption) (by assumption))).symm)
                    refine ⟨⟨?_, rfl⟩, ?_⟩
                    · first | rfl | ((first | refine ei ?_ | refine eh ?_ | refine eb ?_ | refine ehb ?_ | skip); first | exact W_succ hlt hl | exact (par_no hlt (tog_1 (by assumption))).symm | exact (par_no hlt (tog_2 (by assumption) (by assumption))).symm | exact (par_yes hlt (tog_2 (by assumption) (by assumption))).symm)
                    refine ⟨⟨?_, rfl⟩, ?_⟩
                    · first | rfl | ((first | refine ei ?_ | refine eh ?_ | refine eb ?_ | refine ehb ?_ | skip); first | exact W_succ hlt hl | exact (par_no hlt (tog_1 (by assumption))).symm | exact (par_no hlt (tog_2 (by assumption) (by assumption))).symm | exact (par_yes hlt (tog_2 (by assumption) (by assumption))).symm)
                    refine ⟨⟨?_, rfl⟩, ?_⟩
                    · first | rfl | ((first | refine ei ?_ | refine eh ?_ | refine eb ?_ | refine ehb ?_ | skip); first | exact W_succ hlt hl | exact (par_no hlt (tog_1 (by assumption))).symm | exact (par_no hlt (tog_2 (by assumption) (by assumption))).symm | exact (par_yes hlt (tog_2 (by assumption) (by assumption))).symm)
                    refine ⟨⟨?_, rfl⟩, ?_⟩
                    · first | rfl | ((first | refine ei ?_ | refine eh ?_ | refine eb ?_ | refine ehb ?_ | skip); first | exact W_succ hlt hl | exact (par_no hlt (tog_1 (by assumption))).symm | exact (par_no hlt (tog_2 (by assumption) (by assumption))).symm | exact (par_yes hlt (tog_2 (by assumption) (by assumption))).symm)
                    refine ⟨⟨?_, rfl⟩, ?_⟩
                    · first | rfl | ((first | refine ei ?_ | refine eh ?_ | refine eb ?_ | refine ehb ?_ | skip); first | exact W_succ hlt hl | exact (par_no hlt (tog_1 (by assumption))).symm | exact (par_no hlt (tog_2 (by assumption) (by assumption))).symm | exact (par_yes hlt (tog_2 (by assumption) (by assumption))).symm)
                    refine ⟨⟨?_, rfl⟩, ?_⟩
                    · first | rfl | ((first | refine ei ?_ | refine eh ?_ | refine eb ?_ | refine ehb ?_ | skip); first | exact W_succ hlt hl | exact (par_no hlt (tog_1 (by assumption))).symm | exact (par_no hlt (tog_2 (by assumption) (by assumption))).symm | exact (par_yes hlt (tog_2 (by assumption) (by assumption))).symm)
                    exact trivial
                  · refine ⟨⟨?_, rfl, rfl⟩, ?_⟩
                    · first | rfl | ((first | refine ei ?_ | refine eh ?_ | refine eb ?_ | refine ehb ?_ | skip); first | exact W_succ hlt hl | exact (par_no hlt (tog_1 (by assumption))).symm | exact (par_no hlt (tog_2 (by assumption) (by assumption))).symm | exact (par_yes hlt (tog_2 (by assumption) (by assumption))).symm)
                    refine ⟨⟨?_, rfl, rfl⟩, ?_⟩
                    · first | rfl | ((first | refine ei ?_ | refine eh ?_ | refine eb ?_ | refine ehb ?_ | skip); first | exact W_succ hlt hl | exact (par_no hlt (tog_1 (by assumption))).symm | exact (par_no hlt (tog_2 (by assumption) (by assumption))).symm | exact (par_yes hlt (tog_2 (by assumption) (by assumption))).symm)
                    exact trivial
                  · exact trivial)
              · first
                | (cases hc; done)
                | (
                  refine awp_skip ?_
                  refine inBlock_normal ?_
                  refine then_normal ?_
                  refine awp_region ?_
                  refine rv rfl rfl (?_)
                  refine rv rfl rfl (?_)
                  refine rn ?_
                  refine then_normal ?_
                  refine ⟨i + 1, noOn_step hi hlt (by assumption), by omega, ?_⟩
                  refine ⟨Nat.le_of_ble_eq_true rfl, ?_, ?_, ?_⟩
                  · refine ⟨⟨?_, rfl⟩, ?_⟩
                    · first | rfl | ((first | refine ei ?_ | refine eh ?_ | refine eb ?_ | refine ehb ?_ | skip); first | exact W_succ hlt hl | exact (par_no hlt (tog_1 (by assumption))).symm | exact (par_no hlt (tog_2 (by assumption) (by assumption))).symm | exact (par_yes hlt (tog_2 (by assumption) (by assumption))).symm)
                    refine ⟨⟨?_, rfl⟩, ?_⟩
                    · first | rfl | ((first | refine ei ?_ | refine eh ?_ | refine eb ?_ | refine ehb ?_ | skip); first | exact W_succ hlt hl | exact (par_no hlt (tog_1 (by assumption))).symm | exact (par_no hlt (tog_2 (by assumption) (by assumption))).symm | exact (par_yes hlt (tog_2 (by assumption) (by assumption))).symm)
                    refine ⟨⟨?_, rfl⟩, ?_⟩
                    · first | rfl | ((first | refine ei ?_ | refine eh ?_ | refine eb ?_ | refine ehb ?_ | skip); first | exact W_succ hlt hl | exact (par_no hlt (tog_1 (by assumption))).symm | exact (par_no hlt (tog_2 (by assumption) (by assumption))).symm | exact (par_yes hlt (tog_2 (by assumption) (by assumption))).symm)
                    refine ⟨⟨?_, rfl⟩, ?_⟩
                    · first | rfl | ((first | refine ei ?_ | refine eh ?_ | refine eb ?_ | refine ehb ?_ | skip); first | exact W_succ hlt hl | exact (par_no hlt (tog_1 (by assumption))).symm | exact (par_no hlt (tog_2 (by assumption) (by assumption))).symm | exact (par_yes hlt (tog_2 (by assumption) (by assumption))).symm)
                    refine ⟨⟨?_, rfl⟩, ?_⟩
                    · first | rfl | ((first | refine ei ?_ | refine eh ?_ | refine eb ?_ | refine ehb ?_ | skip); first | exact W_succ hlt hl | exact (par_no hlt (tog_1 (by assumption))).symm | exact (par_no hlt (tog_2 (by assumption) (by assumption))).symm | exact (par_yes hlt (tog_2 (by assumption) (by assumption))).symm)
                    refine ⟨⟨?_, rfl⟩, ?_⟩
                    · first | rfl | ((first | refine ei ?_ | refine eh ?_ | refine eb ?_ | refine ehb ?_ | skip); first | exact W_succ hlt hl | exact (par_no hlt (tog_1 (by assumption))).symm | exact (par_no hlt (tog_2 (by assumption) (by assumption))).symm | exact (par_yes hlt (tog_2 (by assumption) (by assumption))).symm)
                    refine ⟨⟨?_, rfl⟩, ?_⟩
                    · first | rfl | ((first | refine ei ?_ | refine eh ?_ | refine eb ?_ | refine ehb ?_ | skip); first | exact W_succ hlt hl | exact (par_no hlt (tog_1 (by assumption))).symm | exact (par_no hlt (tog_2 (by assumption) (by assumption))).symm | exact (par_yes hlt (tog_2 (by assumption) (by assumption))).symm)
                    exact trivial
                  · refine ⟨⟨?_, rfl, rfl⟩, ?_⟩
                    · first | rfl | ((first | refine ei ?_ | refine eh ?_ | refine eb ?_ | refine ehb ?_ | skip); first | exact W_succ hlt hl | exact (par_no hlt (tog_1 (by assumption))).symm | exact (par_no hlt (tog_2 (by assumption) (by assumption))).symm | exact (par_yes hlt (tog_2 (by assumption) (by assumption))).symm)
                    refine ⟨⟨?_, rfl, rfl⟩, ?_⟩
                    · first | rfl | ((first | refine ei ?_ | refine eh ?_ | refine eb ?_ | refine ehb ?_ | skip); first | exact W_succ hlt hl | exact (par_no hlt (tog_1 (by assumption))).symm | exact (par_no hlt (tog_2 (by assumption) (by assumption))).symm | exact (par_yes hlt (tog_2 (by assumption) (by assumption))).symm)
                    exact trivial
                  · exact trivial)))))
  · first
    | (cases hc; done)
    | (
      refine awp_exit ?_
      repeat (first | refine then_exit ?_ | refine inBlock_other rfl ?_)
      refine inBlock_exit ?_
      refine then_normal ?_
      refine awp_seq ?_
      refine awp_region ?_
      refine rv rfl rfl (?_)
      refine rv rfl rfl (?_)
      refine rn ?_
      refine then_normal ?_
      refine awp_ret ?_
      repeat (first | refine then_ret ?_ | refine inBlock_ret ?_)
      refine rr rfl rfl ?_
      first | exact in_on hlt (by assumption) | exact eb (in_end hi (not_lt_len hc)) | trace_state)
end

section
attribute [local irreducible] awp aops DP PCall ACall Decidable.decide Nat.mod tw
/-- `plover/poly.Twice` -/
theorem twice_c {l : List Pt} (hl : l.length ≤ maxLen) : PCall Try.prog 21 [.sl (rows l)] (· = .int .u64 (twA (area2 l))) := by
  refine pcall_body Try.func21 rfl (by kernel_rfl) (by rfl) ?_
  refine awp_seq ?_
  refine awp_region ?_
  refine rv rfl rfl (?_)
  refine rn ?_
  refine then_normal ?_
  refine awp_seq ?_
  refine awp_region ?_
  refine rv rfl rfl (?_)
  refine rn ?_
  refine then_normal ?_
  refine awp_seq ?_
  refine awp_seq ?_
  refine awp_region ?_
  refine rv rfl rfl (?_)
  refine rv rfl rfl (?_)
  refine rv rfl rfl (?_)
  refine rn ?_
  refine then_normal ?_
  refine awp_block ?_
  refine awp_loop (ι := Nat) (fun i => ⟨[(0, .sl (rows l)), (2, .int .u64 0), (3, .int .u64 (tw l i)), (7, .sl (rows l)), (8, .int .i64 ((rows l).length : Int)), (9, .int .i64 (i : Int))], [], [], 0⟩) (fun i => i ≤ l.length) (fun i => l.length - i) (0) (Nat.zero_le _) ?_ (fun _ => Nat.zero_le _) (fun i hi => ?_)
  · refine ⟨Nat.le_of_ble_eq_true rfl, ?_, ?_, ?_⟩
    · refine ⟨⟨?_, rfl⟩, ?_⟩
      · first | rfl | ((first | refine ei ?_ | refine eh ?_ | refine eb ?_ | refine ehb ?_ | skip); exact tw_0 l)
      refine ⟨⟨?_, rfl⟩, ?_⟩
      · first | rfl | ((first | refine ei ?_ | refine eh ?_ | refine eb ?_ | refine ehb ?_ | skip); exact tw_0 l)
      refine ⟨⟨?_, rfl⟩, ?_⟩
      · first | rfl | ((first | refine ei ?_ | refine eh ?_ | refine eb ?_ | refine ehb ?_ | skip); exact tw_0 l)
      refine ⟨⟨?_, rfl⟩, ?_⟩
      · first | rfl | ((first | refine ei ?_ | refine eh ?_ | refine eb ?_ | refine ehb ?_ | skip); exact tw_0 l)
      refine ⟨⟨?_, rfl⟩, ?_⟩
      · first | rfl | ((first | refine ei ?_ | refine eh ?_ | refine eb ?_ | refine ehb ?_ | skip); exact tw_0 l)
      refine ⟨⟨?_, rfl⟩, ?_⟩
      · first | rfl | ((first | refine ei ?_ | refine eh ?_ | refine eb ?_ | refine ehb ?_ | skip); exact tw_0 l)
      exact trivial
    · exact trivial
    · exact trivial
  refine awp_seq ?_
  refine awp_region ?_
  refine rv rfl rfl (?_)
  refine rn ?_
  refine then_normal ?_
  refine awp_seq ?_
  refine cs_ rfl (fun hc => ?_) (fun hc => ?_)
  · first
    | (cases hc; done)
    | (
      refine awp_skip ?_
      refine then_normal ?_
      refine awp_seq ?_
      refine awp_block ?_
      refine awp_seq ?_
      (have hlt := lt_len hc) <;> (
      refine awp_region ?_
      refine rv rfl rfl (?_)
      refine ri rfl rfl rfl rfl rfl rfl (Int.natCast_nonneg _) (rows_i hlt) (rows_wide l) (?_)
      refine rv rfl rfl (?_)
      refine ra rfl rfl rfl (?_)
      refine rv rfl rfl (?_)
      refine rs rfl rfl rfl rfl rfl rfl rfl (?_)
      refine rn ?_
      refine then_normal ?_
      refine awp_seq ?_
      refine awp_region ?_
      refine rv rfl rfl (?_)
      refine rv rfl rfl (?_)
      refine rc1 rfl rfl rfl (next_c (by omega) (by omega)) (?_)
      refine ra rfl rfl rfl (?_)
      refine rs rfl rfl rfl rfl rfl rfl rfl (?_)
      refine rn ?_
      refine then_normal ?_
      refine awp_region ?_
      refine rv rfl rfl (?_)
      refine rv rfl rfl (?_)
      refine rv rfl rfl (?_)
      refine rv rfl rfl (?_)
      refine rv rfl rfl (?_)
      refine rv rfl rfl (?_)
      refine rv rfl rfl (?_)
      refine rv rfl rfl (?_)
      refine rv rfl rfl (?_)
      refine rv rfl rfl (?_)
      refine rv rfl rfl (?_)
      refine rv rfl rfl (?_)
      refine rv rfl rfl (?_)
      refine rv rfl rfl (?_)
      refine rv rfl rfl (?_)
      refine rn ?_
      refine inBlock_normal ?_
      refine then_normal ?_
      refine awp_region ?_
      refine rv rfl rfl (?_)
      refine rv rfl rfl (?_)
      refine rn ?_
      refine then_normal ?_
      refine ⟨i + 1, hlt, by omega, ?_⟩
      refine ⟨Nat.le_of_ble_eq_true rfl, ?_, ?_, ?_⟩
      · refine ⟨⟨?_, rfl⟩, ?_⟩
        · first | rfl | ((first | refine ei ?_ | refine eh ?_ | refine eb ?_ | refine ehb ?_ | skip); first | exact W_succ hlt hl | exact tw_succ hlt)
        refine ⟨⟨?_, rfl⟩, ?_⟩
        · first | rfl | ((first | refine ei ?_ | refine eh ?_ | refine eb ?_ | refine ehb ?_ | skip); first | exact W_succ hlt hl | exact tw_succ hlt)
        refine ⟨⟨?_, rfl⟩, ?_⟩
        · first | rfl | ((first | refine ei ?_ | refine eh ?_ | refine eb ?_ | refine ehb ?_ | skip); first | exact W_succ hlt hl | exact tw_succ hlt)
        refine ⟨⟨?_, rfl⟩, ?_⟩
        · first | rfl | ((first | refine ei ?_ | refine eh ?_ | refine eb ?_ | refine ehb ?_ | skip); first | exact W_succ hlt hl | exact tw_succ hlt)
        refine ⟨⟨?_, rfl⟩, ?_⟩
        · first | rfl | ((first | refine ei ?_ | refine eh ?_ | refine eb ?_ | refine ehb ?_ | skip); first | exact W_succ hlt hl | exact tw_succ hlt)
        refine ⟨⟨?_, rfl⟩, ?_⟩
        · first | rfl | ((first | refine ei ?_ | refine eh ?_ | refine eb ?_ | refine ehb ?_ | skip); first | exact W_succ hlt hl | exact tw_succ hlt)
        exact trivial
      · exact trivial
      · exact trivial))
  · first
    | (cases hc; done)
    | (
      refine awp_exit ?_
      repeat (first | refine then_exit ?_ | refine inBlock_other rfl ?_)
      refine inBlock_exit ?_
      refine then_normal ?_
      refine awp_seq ?_
      refine awp_region ?_
      refine rv rfl rfl (?_)
      refine rv rfl rfl (?_)
      refine rv rfl rfl (?_)
      refine rv rfl rfl (?_)
      refine rv rfl rfl (?_)
      refine rn ?_
      refine then_normal ?_
      refine awp_ret ?_
      repeat (first | refine then_ret ?_ | refine inBlock_ret ?_)
      refine rr rfl rfl ?_
      (rw [tw_end hi (not_lt_len hc)]; exact rfl))
end

section
attribute [local irreducible] awp aops DP PCall ACall Decidable.decide Nat.mod rtw
/-- `plover/ploverref01.Twice` -/
theorem rtwice_c {l : List Pt} (hl : l.length ≤ maxLen) : PCall Try.prog 22 [.sl (rows l)] (· = .int .u64 (twA (area2 l))) := by
  refine pcall_body Try.func22 rfl (by kernel_rfl) (by rfl) ?_
  refine awp_seq ?_
  refine awp_region ?_
  refine rv rfl rfl (?_)
  refine rn ?_
  refine then_normal ?_
  refine awp_seq ?_
  refine awp_region ?_
  refine rv rfl rfl (?_)
  refine rn ?_
  refine then_normal ?_
  refine awp_seq ?_
  refine awp_seq ?_
  refine awp_region ?_
  refine rv rfl rfl (?_)
  refine rn ?_
  refine then_normal ?_
  refine awp_block ?_
  refine awp_loop (ι := Nat) (fun i => ⟨[(0, .sl (rows l)), (2, .int .u64 0), (3, .int .u64 (rtw l i)), (4, .int .i64 (i : Int))], [], [], 0⟩) (fun i => i ≤ l.length) (fun i => l.length - i) (0) (Nat.zero_le _) ?_ (fun _ => Nat.zero_le _) (fun i hi => ?_)
  · refine ⟨Nat.le_of_ble_eq_true rfl, ?_, ?_, ?_⟩
    · refine ⟨⟨?_, rfl⟩, ?_⟩
      · first | rfl | ((first | refine ei ?_ | refine eh ?_ | refine eb ?_ | refine ehb ?_ | skip); exact rtw_0 l)
      refine ⟨⟨?_, rfl⟩, ?_⟩
      · first | rfl | ((first | refine ei ?_ | refine eh ?_ | refine eb ?_ | refine ehb ?_ | skip); exact rtw_0 l)
      refine ⟨⟨?_, rfl⟩, ?_⟩
      · first | rfl | ((first | refine ei ?_ | refine eh ?_ | refine eb ?_ | refine ehb ?_ | skip); exact rtw_0 l)
      refine ⟨⟨?_, rfl⟩, ?_⟩
      · first | rfl | ((first | refine ei ?_ | refine eh ?_ | refine eb ?_ | refine ehb ?_ | skip); exact rtw_0 l)
      exact trivial
    · exact trivial
    · exact trivial
  refine awp_seq ?_
  refine awp_seq ?_
  refine awp_region ?_
  refine rv rfl rfl (?_)
  refine rv rfl rfl (?_)
  refine rv rfl rfl (?_)
  refine rv rfl rfl (?_)
  refine rn ?_
  refine then_normal ?_
  refine cs_ rfl (fun hc => ?_) (fun hc => ?_)
  · first
    | (cases hc; done)
    | (
      refine awp_skip ?_
      refine then_normal ?_
      refine awp_seq ?_
      refine awp_block ?_
      refine awp_seq ?_
      (have hlt := lt_len hc) <;> (
      refine awp_region ?_
      refine rv rfl rfl (?_)
      refine rv rfl rfl (?_)
      refine ri rfl rfl rfl rfl rfl rfl (Int.natCast_nonneg _) (rows_i hlt) (rows_wide l) (?_)
      refine rv rfl rfl (?_)
      refine ra rfl rfl rfl (?_)
      refine rs rfl rfl rfl rfl rfl rfl rfl (?_)
      refine rn ?_
      refine then_normal ?_
      refine awp_seq ?_
      refine awp_region ?_
      refine rv rfl rfl (?_)
      refine rv rfl rfl (?_)
      refine rv' rfl (ov_eq rfl (W_sm (k := 1) (by omega))) (?_)
      refine rv rfl rfl (?_)
      refine rv rfl rfl (?_)
      refine rv' rfl (ov_rem rfl rfl (len_ne (by omega)) (tmod_rows l (i + 1))) (?_)
      refine ri rfl rfl rfl rfl rfl rfl (Int.natCast_nonneg _) (rows_gp (by omega) _) (rows_wide l) (?_)
      refine rv rfl rfl (?_)
      refine ra rfl rfl rfl (?_)
      refine rs rfl rfl rfl rfl rfl rfl rfl (?_)
      refine rn ?_
      refine then_normal ?_
      refine awp_region ?_
      refine rv rfl rfl (?_)
      refine rv rfl rfl (?_)
      refine rv rfl rfl (?_)
      refine rv rfl rfl (?_)
      refine rv rfl rfl (?_)
      refine rv rfl rfl (?_)
      refine rv rfl rfl (?_)
      refine rv rfl rfl (?_)
      refine rv rfl rfl (?_)
      refine rv rfl rfl (?_)
      refine rv rfl rfl (?_)
      refine rv rfl rfl (?_)
      refine rv rfl rfl (?_)
      refine rv rfl rfl (?_)
      refine rv rfl rfl (?_)
      refine rv rfl rfl (?_)
      refine rv rfl rfl (?_)
      refine rv rfl rfl (?_)
      refine rv rfl rfl (?_)
      refine rv rfl rfl (?_)
      refine rn ?_
      refine inBlock_normal ?_
      refine then_normal ?_
      refine awp_region ?_
      refine rv rfl rfl (?_)
      refine rv rfl rfl (?_)
      refine rv rfl rfl (?_)
      refine rn ?_
      refine then_normal ?_
      refine ⟨i + 1, hlt, by omega, ?_⟩
      refine ⟨Nat.le_of_ble_eq_true rfl, ?_, ?_, ?_⟩
      · refine ⟨⟨?_, rfl⟩, ?_⟩
        · first | rfl | ((first | refine ei ?_ | refine eh ?_ | refine eb ?_ | refine ehb ?_ | skip); first | exact W_succ hlt hl | exact rtw_succ hlt)
        refine ⟨⟨?_, rfl⟩, ?_⟩
        · first | rfl | ((first | refine ei ?_ | refine eh ?_ | refine eb ?_ | refine ehb ?_ | skip); first | exact W_succ hlt hl | exact rtw_succ hlt)
        refine ⟨⟨?_, rfl⟩, ?_⟩
        · first | rfl | ((first | refine ei ?_ | refine eh ?_ | refine eb ?_ | refine ehb ?_ | skip); first | exact W_succ hlt hl | exact rtw_succ hlt)
        refine ⟨⟨?_, rfl⟩, ?_⟩
        · first | rfl | ((first | refine ei ?_ | refine eh ?_ | refine eb ?_ | refine ehb ?_ | skip); first | exact W_succ hlt hl | exact rtw_succ hlt)
        exact trivial
      · exact trivial
      · exact trivial))
  · first
    | (cases hc; done)
    | (
      refine awp_exit ?_
      repeat (first | refine then_exit ?_ | refine inBlock_other rfl ?_)
      refine inBlock_exit ?_
      refine then_normal ?_
      refine awp_seq ?_
      refine awp_seq ?_
      (have he := rtw_end hi (not_lt_len hc)) <;> (
      refine awp_region ?_
      refine rv rfl rfl (?_)
      refine rv rfl rfl (?_)
      refine rn ?_
      refine then_normal ?_
      refine cs_ rfl (fun hc => ?_) (fun hc => ?_)
      · first
        | (cases hc; done)
        | (
          refine awp_seq ?_
          refine awp_region ?_
          refine rv rfl rfl (?_)
          refine rv rfl rfl (?_)
          refine rv rfl rfl (?_)
          refine rv rfl rfl (?_)
          refine rn ?_
          refine then_normal ?_
          refine awp_ret ?_
          repeat (first | refine then_ret ?_ | refine inBlock_ret ?_)
          refine rr rfl rfl ?_
          (rw [he] at *; first | exact ei (rtw_1 (by assumption)) | exact ei (rtw_2 (by assumption))))
      · first
        | (cases hc; done)
        | (
          refine awp_skip ?_
          refine then_normal ?_
          refine awp_seq ?_
          refine awp_region ?_
          refine rv rfl rfl (?_)
          refine rv rfl rfl (?_)
          refine rn ?_
          refine then_normal ?_
          refine awp_ret ?_
          repeat (first | refine then_ret ?_ | refine inBlock_ret ?_)
          refine rr rfl rfl ?_
          (rw [he] at *; first | exact ei (rtw_1 (by assumption)) | exact ei (rtw_2 (by assumption))))))
end

section
attribute [local irreducible] awp aops DP PCall ACall Decidable.decide Nat.mod simpB addB moveT
/-- `plover/poly.Move` -/
theorem move_c {l : List Pt} {d : Pt} (hl : l.length ≤ maxLen) : PCall Try.prog 23 [.sl (rows l), .agg [.int .i64 (d).1, .int .i64 (d).2]] (· = moveT l d) := by
  refine pcall_body Try.func23 rfl (by kernel_rfl) (by rfl) ?_
  refine awp_seq ?_
  refine awp_region ?_
  refine rb rfl rfl (?_)
  refine rv rfl rfl (?_)
  refine rv rfl rfl (?_)
  refine rn ?_
  refine then_normal ?_
  refine awp_seq ?_
  refine awp_seq ?_
  refine awp_region ?_
  refine rv rfl rfl (?_)
  refine rc1 rfl rfl rfl (simple_c hl) (?_)
  refine rv rfl rfl (?_)
  refine rn ?_
  refine then_normal ?_
  refine cs_ rfl (fun hc => ?_) (fun hc => ?_)
  · first
    | (cases hc; done)
    | (
      refine awp_seq ?_
      refine awp_region ?_
      refine rv rfl rfl (?_)
      refine rv rfl rfl (?_)
      refine rv rfl rfl (?_)
      refine rn ?_
      refine then_normal ?_
      refine awp_ret ?_
      repeat (first | refine then_ret ?_ | refine inBlock_ret ?_)
      refine rr rfl rfl ?_
      first | exact mv_1 (by assumption) | exact mv_2 hsb hlt hb | exact mv_3 hsb hi (not_lt_len hc) | trace_state)
  · first
    | (cases hc; done)
    | (
      refine awp_skip ?_
      refine then_normal ?_
      refine awp_seq ?_
      refine awp_region ?_
      refine rv rfl rfl (?_)
      refine rn ?_
      refine then_normal ?_
      refine awp_seq ?_
      refine awp_seq ?_
      (have h64 := ((simpB_iff l).1 (by simpa using hc)).n64; have hsb := hc) <;> (
      refine awp_region ?_
      refine rv rfl rfl (?_)
      refine rv rfl rfl (?_)
      refine rv rfl rfl (?_)
      refine rn ?_
      refine then_normal ?_
      refine awp_block ?_
      refine awp_conv (fun _ _ _ _ _ hi => nilS_slot false 2 6 rfl hi) ?_
      refine awp_loopR (ι := Nat) (fun i => ⟨[(0, .sl (rows l)), (3, .ptr 0 0), (6, .own 1), (15, .sl (rows l)), (16, .int .i64 ((rows l).length : Int)), (17, .int .i64 (i : Int))], [(0, 0, .int .i64 d.1), (0, 1, .int .i64 d.2)], [(1, .row 2 (rows ((l.take i).map (mvW d))))], 2⟩) (fun i => allA l d i) (fun i => l.length - i) (0) (⟨Nat.zero_le _, rfl⟩) ⟨[0, 1], rfl, ?_⟩ (fun i hi => ?_)
      · refine ⟨rfl, rfl, ?_, ?_, ?_⟩
        · refine ⟨⟨?_, rfl⟩, ?_⟩
          · first | exact .inl rfl | exact .inr rfl | (refine .inl ?_; (first | refine ei ?_ | refine eb ?_ | refine esl ?_ | refine estr ?_ | skip); first | exact W_succ hlt hl | exact mv_succ hlt | rfl) | (refine .inr ?_; (first | refine ei ?_ | refine eb ?_ | refine esl ?_ | refine estr ?_ | skip); first | exact W_succ hlt hl | exact mv_succ hlt | rfl)
          refine ⟨⟨?_, rfl⟩, ?_⟩
          · first | exact .inl rfl | exact .inr rfl | (refine .inl ?_; (first | refine ei ?_ | refine eb ?_ | refine esl ?_ | refine estr ?_ | skip); first | exact W_succ hlt hl | exact mv_succ hlt | rfl) | (refine .inr ?_; (first | refine ei ?_ | refine eb ?_ | refine esl ?_ | refine estr ?_ | skip); first | exact W_succ hlt hl | exact mv_succ hlt | rfl)
          refine ⟨⟨?_, rfl⟩, ?_⟩
          · first | exact .inl rfl | exact .inr rfl | (refine .inl ?_; (first | refine ei ?_ | refine eb ?_ | refine esl ?_ | refine estr ?_ | skip); first | exact W_succ hlt hl | exact mv_succ hlt | rfl) | (refine .inr ?_; (first | refine ei ?_ | refine eb ?_ | refine esl ?_ | refine estr ?_ | skip); first | exact W_succ hlt hl | exact mv_succ hlt | rfl)
          refine ⟨⟨?_, rfl⟩, ?_⟩
          · first | exact .inl rfl | exact .inr rfl | (refine .inl ?_; (first | refine ei ?_ | refine eb ?_ | refine esl ?_ | refine estr ?_ | skip); first | exact W_succ hlt hl | exact mv_succ hlt | rfl) | (refine .inr ?_; (first | refine ei ?_ | refine eb ?_ | refine esl ?_ | refine estr ?_ | skip); first | exact W_succ hlt hl | exact mv_succ hlt | rfl)
          refine ⟨⟨?_, rfl⟩, ?_⟩
          · first | exact .inl rfl | exact .inr rfl | (refine .inl ?_; (first | refine ei ?_ | refine eb ?_ | refine esl ?_ | refine estr ?_ | skip); first | exact W_succ hlt hl | exact mv_succ hlt | rfl) | (refine .inr ?_; (first | refine ei ?_ | refine eb ?_ | refine esl ?_ | refine estr ?_ | skip); first | exact W_succ hlt hl | exact mv_succ hlt | rfl)
          refine ⟨⟨?_, rfl⟩, ?_⟩
          · first | exact .inl rfl | exact .inr rfl | (refine .inl ?_; (first | refine ei ?_ | refine eb ?_ | refine esl ?_ | refine estr ?_ | skip); first | exact W_succ hlt hl | exact mv_succ hlt | rfl) | (refine .inr ?_; (first | refine ei ?_ | refine eb ?_ | refine esl ?_ | refine estr ?_ | skip); first | exact W_succ hlt hl | exact mv_succ hlt | rfl)
          exact trivial
        · refine ⟨⟨?_, rfl, rfl⟩, ?_⟩
          · first | exact ⟨_, rfl, .inl rfl⟩ | exact ⟨_, rfl, .inr rfl⟩ | (refine ⟨_, rfl, .inl ?_⟩; (first | refine ei ?_ | refine eb ?_ | refine esl ?_ | refine estr ?_ | skip); first | exact W_succ hlt hl | exact mv_succ hlt | rfl) | (refine ⟨_, rfl, .inr ?_⟩; (first | refine ei ?_ | refine eb ?_ | refine esl ?_ | refine estr ?_ | skip); first | exact W_succ hlt hl | exact mv_succ hlt | rfl)
          refine ⟨⟨?_, rfl, rfl⟩, ?_⟩
          · first | exact ⟨_, rfl, .inl rfl⟩ | exact ⟨_, rfl, .inr rfl⟩ | (refine ⟨_, rfl, .inl ?_⟩; (first | refine ei ?_ | refine eb ?_ | refine esl ?_ | refine estr ?_ | skip); first | exact W_succ hlt hl | exact mv_succ hlt | rfl) | (refine ⟨_, rfl, .inr ?_⟩; (first | refine ei ?_ | refine eb ?_ | refine esl ?_ | refine estr ?_ | skip); first | exact W_succ hlt hl | exact mv_succ hlt | rfl)
          exact trivial
        · refine ⟨orow rfl ?_ rfl, ?_⟩
          · first | rfl | (first | exact W_succ hlt hl | exact mv_succ hlt | rfl)
          exact trivial
      refine awp_seq ?_
      refine awp_region ?_
      refine rv rfl rfl (?_)
      refine rn ?_
      refine then_normal ?_
      refine awp_seq ?_
      refine cs_ rfl (fun hc => ?_) (fun hc => ?_)
      · first
        | (cases hc; done)
        | (
          refine awp_skip ?_
          refine then_normal ?_
          refine awp_seq ?_
          refine awp_block ?_
          refine awp_seq ?_
          (have hlt := lt_len hc) <;> (
          refine awp_region ?_
          refine ri rfl rfl rfl rfl rfl rfl (Int.natCast_nonneg _) (rows_i hlt) (rows_wide l) (?_)
          refine rv rfl rfl (?_)
          refine ra rfl rfl rfl (?_)
          refine rs rfl rfl rfl rfl rfl rfl rfl (?_)
          refine rn ?_
          refine then_normal ?_
          refine awp_seq ?_
          (rcases hb : addB (gp l i).1 (gp l i).2 d.1 d.2 with _ | _) <;> (
          refine awp_region ?_
          refine rv rfl rfl (?_)
          refine rv rfl rfl (?_)
          refine rc1 rfl rfl rfl (add_cb hb) (?_)
          refine rv rfl rfl (?_)
          refine rv rfl rfl (?_)
          refine rv rfl rfl (?_)
          refine ra rfl rfl rfl (?_)
          refine rs rfl rfl rfl rfl rfl rfl rfl (?_)
          refine rv rfl rfl (?_)
          refine rn ?_
          refine then_normal ?_
          refine awp_seq ?_
          refine awp_seq ?_
          refine awp_region ?_
          refine rv rfl rfl (?_)
          refine rv rfl rfl (?_)
          refine rn ?_
          refine then_normal ?_
          refine cs_ rfl (fun hc => ?_) (fun hc => ?_)
          · first
            | (cases hc; done)
            | (
              refine awp_seq ?_
              refine awp_region ?_
              refine rv rfl rfl (?_)
              refine rv rfl rfl (?_)
              refine rv rfl rfl (?_)
              refine rn ?_
              refine then_normal ?_
              refine awp_ret ?_
              repeat (first | refine then_ret ?_ | refine inBlock_ret ?_)
              refine rr rfl rfl ?_
              first | exact mv_1 (by assumption) | exact mv_2 hsb hlt hb | exact mv_3 hsb hi (not_lt_len hc) | trace_state)
          · first
            | (cases hc; done)
            | (
              refine awp_skip ?_
              refine then_normal ?_
              refine awp_region ?_
              refine rv rfl rfl (?_)
              refine rv rfl rfl (?_)
              refine rbs false rfl rfl rfl rfl rfl rfl rfl rfl rfl rfl (?_)
              refine rap false rfl rfl rfl rfl rfl rfl rfl (.own rfl rfl) (.sl rfl rfl rfl) (pr_plain _ _).wide (pr_plain _ _).ones (by show (_ + 1) * 16 ≤ _; rw [rows_len, List.length_map, List.length_take]; show _ ≤ 140737488355328; omega) rfl (?_)
              refine rv rfl rfl (?_)
              refine rn ?_
              refine inBlock_normal ?_
              refine then_normal ?_
              refine awp_region ?_
              refine rv rfl rfl (?_)
              refine rv rfl rfl (?_)
              refine rn ?_
              refine then_normal ?_
              refine ⟨i + 1, allA_step hi hlt hb, by omega, [0, 5], rfl, ?_⟩
              refine ⟨rfl, rfl, ?_, ?_, ?_⟩
              · refine ⟨⟨?_, rfl⟩, ?_⟩
                · first | exact .inl rfl | exact .inr rfl | (refine .inl ?_; (first | refine ei ?_ | refine eb ?_ | refine esl ?_ | refine estr ?_ | skip); first | exact W_succ hlt hl | exact mv_succ hlt | rfl) | (refine .inr ?_; (first | refine ei ?_ | refine eb ?_ | refine esl ?_ | refine estr ?_ | skip); first | exact W_succ hlt hl | exact mv_succ hlt | rfl)
                refine ⟨⟨?_, rfl⟩, ?_⟩
                · first | exact .inl rfl | exact .inr rfl | (refine .inl ?_; (first | refine ei ?_ | refine eb ?_ | refine esl ?_ | refine estr ?_ | skip); first | exact W_succ hlt hl | exact mv_succ hlt | rfl) | (refine .inr ?_; (first | refine ei ?_ | refine eb ?_ | refine esl ?_ | refine estr ?_ | skip); first | exact W_succ hlt hl | exact mv_succ hlt | rfl)
                refine ⟨⟨?_, rfl⟩, ?_⟩
                · first | exact .inl rfl | exact .inr rfl | (refine .inl ?_; (first | refine ei ?_ | refine eb ?_ | refine esl ?_ | refine estr ?_ | skip); first | exact W_succ hlt hl | exact mv_succ hlt | rfl) | (refine .inr ?_; (first | refine ei ?_ | refine eb ?_ | refine esl ?_ | refine estr ?_ | skip); first | exact W_succ hlt hl | exact mv_succ hlt | rfl)
                refine ⟨⟨?_, rfl⟩, ?_⟩
                · first | exact .inl rfl | exact .inr rfl | (refine .inl ?_; (first | refine ei ?_ | refine eb ?_ | refine esl ?_ | refine estr ?_ | skip); first | exact W_succ hlt hl | exact mv_succ hlt | rfl) | (refine .inr ?_; (first | refine ei ?_ | refine eb ?_ | refine esl ?_ | refine estr ?_ | skip); first | exact W_succ hlt hl | exact mv_succ hlt | rfl)
                refine ⟨⟨?_, rfl⟩, ?_⟩
                · first | exact .inl rfl | exact .inr rfl | (refine .inl ?_; (first | refine ei ?_ | refine eb ?_ | refine esl ?_ | refine estr ?_ | skip); first | exact W_succ hlt hl | exact mv_succ hlt | rfl) | (refine .inr ?_; (first | refine ei ?_ | refine eb ?_ | refine esl ?_ | refine estr ?_ | skip); first | exact W_succ hlt hl | exact mv_succ hlt | rfl)
                refine ⟨⟨?_, rfl⟩, ?_⟩
                · first | exact .inl rfl | exact .inr rfl | (refine .inl ?_; (first | refine ei ?_ | refine eb ?_ | refine esl ?_ | refine estr ?_ | skip); first | exact W_succ hlt hl | exact mv_succ hlt | rfl) | (refine .inr ?_; (first | refine ei ?_ | refine eb ?_ | refine esl ?_ | refine estr ?_ | skip); first | exact W_succ hlt hl | exact mv_succ hlt | rfl)
                exact trivial
              · refine ⟨⟨?_, rfl, rfl⟩, ?_⟩
                · first | exact ⟨_, rfl, .inl rfl⟩ | exact ⟨_, rfl, .inr rfl⟩ | (refine ⟨_, rfl, .inl ?_⟩; (first | refine ei ?_ | refine eb ?_ | refine esl ?_ | refine estr ?_ | skip); first | exact W_succ hlt hl | exact mv_succ hlt | rfl) | (refine ⟨_, rfl, .inr ?_⟩; (first | refine ei ?_ | refine eb ?_ | refine esl ?_ | refine estr ?_ | skip); first | exact W_succ hlt hl | exact mv_succ hlt | rfl)
                refine ⟨⟨?_, rfl, rfl⟩, ?_⟩
                · first | exact ⟨_, rfl, .inl rfl⟩ | exact ⟨_, rfl, .inr rfl⟩ | (refine ⟨_, rfl, .inl ?_⟩; (first | refine ei ?_ | refine eb ?_ | refine esl ?_ | refine estr ?_ | skip); first | exact W_succ hlt hl | exact mv_succ hlt | rfl) | (refine ⟨_, rfl, .inr ?_⟩; (first | refine ei ?_ | refine eb ?_ | refine esl ?_ | refine estr ?_ | skip); first | exact W_succ hlt hl | exact mv_succ hlt | rfl)
                exact trivial
              · refine ⟨orow rfl ?_ rfl, ?_⟩
                · first | rfl | (first | exact W_succ hlt hl | exact mv_succ hlt | rfl)
                exact trivial))))
      · first
        | (cases hc; done)
        | (
          refine awp_exit ?_
          repeat (first | refine then_exit ?_ | refine inBlock_other rfl ?_)
          refine inBlock_exit ?_
          refine then_normal ?_
          refine awp_seq ?_
          refine awp_region ?_
          refine rv rfl rfl (?_)
          refine rv rfl rfl (?_)
          refine rv rfl rfl (?_)
          refine rn ?_
          refine then_normal ?_
          refine awp_ret ?_
          repeat (first | refine then_ret ?_ | refine inBlock_ret ?_)
          refine rr rfl rfl ?_
          first | exact mv_1 (by assumption) | exact mv_2 hsb hlt hb | exact mv_3 hsb hi (not_lt_len hc) | trace_state)))
end

end Go.Proofs.Ytngeejjllgnpcaa
