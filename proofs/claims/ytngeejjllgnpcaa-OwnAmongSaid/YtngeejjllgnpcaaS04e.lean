/- Contracts, printed by a program of this session's. -/
import Derived.Test.YtngeejjllgnpcaaS04c
import Derived.Test.YtngeejjllgnpcaaS02
import Derived.Test.YtngeejjllgnpcaaPwD
namespace Go.Proofs.Ytngeejjllgnpcaa
open Go.Pv
set_option maxRecDepth 100000
set_option maxHeartbeats 4000000
set_option linter.unusedSimpArgs false
set_option linter.unusedVariables false
set_option linter.unusedSectionVars false

def cel (s x : Int) : Int := (W (x + 1073741824)).fdiv (2 ^ min s.toNat 64)
def celT (p q : Bool) (u v : Int) : AV := match p, q with
  | false, _ => .tup [.int .i64 0, .int .i64 0, .iface 35 (.int .i64 1)]
  | true, false => .tup [.int .i64 0, .int .i64 0, .iface 35 (.int .i64 11)]
  | true, true => .tup [.int .i64 u, .int .i64 v, .nilI]
theorem mayS_nn {s : Int} (h : (!mayS s) = false) : ¬ s < 0 := by simp [mayS] at h; omega
def cfarS (s n : Int) : Bool := decide (n < 0) || decide (n ≥ sideV s)
def lowV (s n : Int) : Int := W (W (n * 2 ^ min s.toNat 64) - 1073741824)
def highV (s n : Int) : Int := mn (W (lowV s (W (n + 1)) - 1)) 1073741824
def boxT (p : Bool) (s c r : Int) : AV := match p with
  | false => .tup [.agg [.int .i64 0, .int .i64 0, .int .i64 0, .int .i64 0], .iface 35 (.int .i64 1)]
  | true => .tup [.agg [.int .i64 (lowV s c), .int .i64 (lowV s r), .int .i64 (highV s c), .int .i64 (highV s r)], .nilI]
def inS (s c r : Int) : Bool := !cfarS s c && !cfarS s r
theorem far_bad {s n : Int} (h : mayS s = false) : cfarS s n = true := by
  simp [cfarS, sideV, h]; omega
theorem may_of_far {s n : Int} (h : cfarS s n = false) : mayS s = true := by
  cases hm : mayS s with
  | true => rfl
  | false => rw [far_bad hm] at h; cases h
theorem far_nn {s n : Int} (h : cfarS s n = false) : ¬ s < 0 := mayS_nn (by rw [may_of_far h]; rfl)
theorem cel_1 {s u v : Int} {q : Bool} (h : (!mayS s) = true) : AV.tup [.int .i64 0, .int .i64 0, .iface 35 (.int .i64 1)] = celT (mayS s) q u v := by
  have e : mayS s = false := by simpa using h
  rw [e]; rfl
theorem cel_2 {s u v : Int} {q : Bool} (h : (!mayS s) = false) (h' : (!q) = true) : AV.tup [.int .i64 0, .int .i64 0, .iface 35 (.int .i64 11)] = celT (mayS s) q u v := by
  have e : mayS s = true := by simpa using h
  have e' : q = false := by simpa using h'
  rw [e, e']; rfl
theorem cel_3 {s u v : Int} {q : Bool} (h : (!mayS s) = false) (h' : (!q) = false) : AV.tup [.int .i64 u, .int .i64 v, .nilI] = celT (mayS s) q u v := by
  have e : mayS s = true := by simpa using h
  have e' : q = true := by simpa using h'
  rw [e, e']; rfl
theorem box_1 {s c r : Int} (h : cfarS s c = true ∨ cfarS s r = true) : AV.tup [.agg [.int .i64 0, .int .i64 0, .int .i64 0, .int .i64 0], .iface 35 (.int .i64 1)] = boxT (inS s c r) s c r := by
  have e : inS s c r = false := by rcases h with h | h <;> simp [inS, h]
  rw [e]; rfl
theorem box_2 {s c r : Int} (h : cfarS s c = false) (h' : cfarS s r = false) : AV.tup [.agg [.int .i64 (lowV s c), .int .i64 (lowV s r), .int .i64 (highV s c), .int .i64 (highV s r)], .nilI] = boxT (inS s c r) s c r := by
  have e : inS s c r = true := by simp [inS, h, h']
  rw [e]; rfl

section
attribute [local irreducible] awp aops DP PCall ACall Decidable.decide
/-- `plover/morton.Cell` -/
theorem cell_c {s x y : Int} : PCall Try.prog 55 [.int .i64 s, .agg [.int .i64 x, .int .i64 y]] (· = celT (mayS s) (mayP x y) (cel s x) (cel s y)) := by
  refine pcall_body Try.func55 rfl (by kernel_rfl) (by rfl) ?_
  refine awp_seq ?_
  refine awp_region ?_
  refine rb rfl rfl (?_)
  refine rv rfl rfl (?_)
  refine rv rfl rfl (?_)
  refine rv rfl rfl (?_)
  refine rn ?_
  refine then_normal ?_
  refine awp_seq ?_
  refine awp_block ?_
  refine awp_seq ?_
  refine awp_region ?_
  refine rv rfl rfl (?_)
  refine rc1 rfl rfl rfl mayS_c (?_)
  refine rv rfl rfl (?_)
  refine rv rfl rfl (?_)
  refine rn ?_
  refine then_normal ?_
  refine cs_ rfl (fun hc => ?_) (fun hc => ?_)
  · first
    | (cases hc; done)
    | (
      refine awp_seq ?_
      refine awp_region ?_
      refine rv rfl rfl (?_)
      refine rv rfl rfl (?_)
      refine rv rfl rfl (?_)
      refine rv rfl rfl (?_)
      refine rn ?_
      refine then_normal ?_
      refine awp_ret ?_
      repeat (first | refine then_ret ?_ | refine inBlock_ret ?_)
      refine rr rfl rfl ?_
      first | exact cel_1 hc | exact cel_2 (by assumption) hc | exact cel_3 (by assumption) hc)
  · first
    | (cases hc; done)
    | (
      refine awp_seq ?_
      refine awp_region ?_
      refine rv rfl rfl (?_)
      refine rc1 rfl rfl rfl mayP_c (?_)
      refine rv rfl rfl (?_)
      refine rv rfl rfl (?_)
      refine rn ?_
      refine then_normal ?_
      refine cs_ rfl (fun hc => ?_) (fun hc => ?_)
      · first
        | (cases hc; done)
        | (
          refine awp_seq ?_
          refine awp_region ?_
          refine rv rfl rfl (?_)
          refine rv rfl rfl (?_)
          refine rv rfl rfl (?_)
          refine rv rfl rfl (?_)
          refine rn ?_
          refine then_normal ?_
          refine awp_ret ?_
          repeat (first | refine then_ret ?_ | refine inBlock_ret ?_)
          refine rr rfl rfl ?_
          first | exact cel_1 hc | exact cel_2 (by assumption) hc | exact cel_3 (by assumption) hc)
      · first
        | (cases hc; done)
        | (
          refine awp_skip ?_
          refine inBlock_normal ?_
          refine then_normal ?_
          refine awp_seq ?_
          (have h0 := mayS_nn (by assumption : (!mayS s) = false)) <;> (
          refine awp_dp (m := 11) Try.mix (by kernel_rfl) (by kernel_rfl) (by kernel_rfl) (by kernel_rfl) (by kernel_rfl) (by kernel_rfl) (by kernel_rfl) ?_
          refine dv rfl rfl (fun _ => rfl) ?_
          refine dv rfl rfl (fun _ => rfl) ?_
          refine dv rfl rfl (fun _ => rfl) ?_
          refine dv rfl rfl (fun _ => rfl) ?_
          refine dv rfl rfl (fun _ => (nfO_eq _).trans (opv_shr rfl rfl h0)) ?_
          refine dv rfl rfl (fun _ => rfl) ?_
          refine dv rfl rfl (fun _ => rfl) ?_
          refine dv rfl rfl (fun _ => rfl) ?_
          refine dv rfl rfl (fun _ => rfl) ?_
          refine dv rfl rfl (fun _ => (nfO_eq _).trans (opv_shr rfl rfl h0)) ?_
          refine dv rfl rfl (fun _ => rfl) ?_
          refine dn ?_
          refine rv rfl rfl (?_)
          refine rv rfl rfl (?_)
          refine rn ?_
          refine then_normal ?_
          refine awp_ret ?_
          repeat (first | refine then_ret ?_ | refine inBlock_ret ?_)
          refine rr rfl rfl ?_
          first | exact cel_1 hc | exact cel_2 (by assumption) hc | exact cel_3 (by assumption) hc)))
end

section
attribute [local irreducible] awp aops DP PCall ACall Decidable.decide
/-- `plover/morton.Box$1` -/
theorem bfar_c {s n : Int} : PCall Try.prog 108 [.int .i64 n, .rd [.int .i64 s]] (· = .bool (cfarS s n)) := by
  refine pcall_body Try.func108 rfl (by kernel_rfl) (by rfl) ?_
  refine awp_seq ?_
  refine awp_region ?_
  refine rv rfl rfl (?_)
  refine rn ?_
  refine then_normal ?_
  refine awp_seq ?_
  refine awp_region ?_
  refine rv rfl rfl (?_)
  refine rv rfl rfl (?_)
  refine rv rfl rfl (?_)
  (first | refine gy rfl rfl rfl (rv rfl rfl (?_)) | refine gn rfl rfl rfl rfl rfl ?_ | refine gu rfl rfl rfl rfl ?_ | refine gs rfl rfl rfl rfl rfl (fun hg => rv rfl rfl (?_)) (fun hg => ?_)) <;> (
  (first | refine gy rfl rfl rfl (rv rfl rfl (?_)) | refine gn rfl rfl rfl rfl rfl ?_ | refine gu rfl rfl rfl rfl ?_ | refine gs rfl rfl rfl rfl rfl (fun hg => rv rfl rfl (?_)) (fun hg => ?_)) <;> (
  (first | refine gy rfl rfl rfl (rc1 rfl rfl rfl side_c (?_)) | refine gn rfl rfl rfl rfl rfl ?_ | refine gu rfl rfl rfl rfl ?_ | refine gs rfl rfl rfl rfl rfl (fun hg => rc1 rfl rfl rfl side_c (?_)) (fun hg => ?_)) <;> (
  (first | refine gy rfl rfl rfl (rv rfl rfl (?_)) | refine gn rfl rfl rfl rfl rfl ?_ | refine gu rfl rfl rfl rfl ?_ | refine gs rfl rfl rfl rfl rfl (fun hg => rv rfl rfl (?_)) (fun hg => ?_)) <;> (
  refine rv rfl rfl (?_)
  refine rv rfl rfl (?_)
  refine rn ?_
  refine then_normal ?_
  refine awp_ret ?_
  repeat (first | refine then_ret ?_ | refine inBlock_ret ?_)
  refine rr rfl rfl ?_
  first | rfl | (simp [*]; done) | (simp [cfarS]; done) | (simp [cfarS, *]; done) | (simp_all [cfarS]; done)))))
end

section
attribute [local irreducible] awp aops DP PCall ACall Decidable.decide
/-- `plover/morton.Box$2` -/
theorem blow_c {s n : Int} (h0 : ¬ s < 0) : PCall Try.prog 110 [.int .i64 n, .rd [.int .i64 s]] (· = .int .i64 (lowV s n)) := by
  refine pcall_body Try.func110 rfl (by kernel_rfl) (by rfl) ?_
  refine awp_seq ?_
  refine awp_region ?_
  refine rv rfl rfl (?_)
  refine rn ?_
  refine then_normal ?_
  refine awp_seq ?_
  refine awp_region ?_
  refine rv rfl rfl (?_)
  refine rv rfl rfl (?_)
  refine rv' rfl (opv_shl rfl rfl h0) (?_)
  refine rv rfl rfl (?_)
  refine rv rfl rfl (?_)
  refine rn ?_
  refine then_normal ?_
  refine awp_ret ?_
  repeat (first | refine then_ret ?_ | refine inBlock_ret ?_)
  refine rr rfl rfl ?_
  rfl
end

section
attribute [local irreducible] awp aops DP PCall ACall Decidable.decide
/-- `plover/morton.Box$3` -/
theorem bhigh_c {s n : Int} (h0 : ¬ s < 0) : PCall Try.prog 111 [.int .i64 n, .rd [.fn 110 [.rd [.int .i64 s]]]] (· = .int .i64 (highV s n)) := by
  refine pcall_body Try.func111 rfl (by kernel_rfl) (by rfl) ?_
  refine awp_seq ?_
  refine awp_region ?_
  refine rv rfl rfl (?_)
  refine rn ?_
  refine then_normal ?_
  refine awp_seq ?_
  refine awp_region ?_
  refine rv rfl rfl (?_)
  refine rv rfl rfl (?_)
  refine rv rfl rfl (?_)
  refine rf rfl rfl (blow_c h0) rfl (?_)
  refine rv rfl rfl (?_)
  refine rv rfl rfl (?_)
  refine rv rfl rfl (?_)
  refine rn ?_
  refine then_normal ?_
  refine awp_ret ?_
  repeat (first | refine then_ret ?_ | refine inBlock_ret ?_)
  refine rr rfl rfl ?_
  rfl
end

section
attribute [local irreducible] awp aops DP PCall ACall Decidable.decide
/-- `plover/morton.Box` -/
theorem box_c {s c r : Int} : PCall Try.prog 86 [.int .i64 s, .int .i64 c, .int .i64 r] (· = boxT (inS s c r) s c r) := by
  refine pcall_body Try.func86 rfl (by kernel_rfl) (by rfl) ?_
  refine awp_seq ?_
  refine awp_region ?_
  refine rb rfl rfl (?_)
  refine ra rfl rfl rfl (?_)
  refine rv rfl rfl (?_)
  refine rn ?_
  refine then_normal ?_
  refine awp_seq ?_
  refine awp_region ?_
  refine rv rfl rfl (?_)
  refine rv rfl rfl (?_)
  refine rn ?_
  refine then_normal ?_
  refine awp_seq ?_
  refine awp_seq ?_
  refine awp_region ?_
  refine rv rfl rfl (?_)
  refine rv rfl rfl (?_)
  refine rf rfl rfl bfar_c rfl (?_)
  refine rv rfl rfl (?_)
  (first | refine gy rfl rfl rfl (rv rfl rfl (?_)) | refine gn rfl rfl rfl rfl rfl ?_ | refine gu rfl rfl rfl rfl ?_ | refine gs rfl rfl rfl rfl rfl (fun hg => rv rfl rfl (?_)) (fun hg => ?_)) <;> (
  (first | refine gy rfl rfl rfl (rv rfl rfl (?_)) | refine gn rfl rfl rfl rfl rfl ?_ | refine gu rfl rfl rfl rfl ?_ | refine gs rfl rfl rfl rfl rfl (fun hg => rv rfl rfl (?_)) (fun hg => ?_)) <;> (
  (first | refine gy rfl rfl rfl (rf rfl rfl bfar_c rfl (?_)) | refine gn rfl rfl rfl rfl rfl ?_ | refine gu rfl rfl rfl rfl ?_ | refine gs rfl rfl rfl rfl rfl (fun hg => rf rfl rfl bfar_c rfl (?_)) (fun hg => ?_)) <;> (
  refine rv rfl rfl (?_)
  refine rn ?_
  refine then_normal ?_
  refine cs_ rfl (fun hc => ?_) (fun hc => ?_)
  · first
    | (cases hc; done)
    | (
      refine awp_seq ?_
      refine awp_region ?_
      refine rv rfl rfl (?_)
      refine rv rfl rfl (?_)
      refine rs rfl rfl rfl rfl rfl rfl rfl (?_)
      refine rv rfl rfl (?_)
      refine rn ?_
      refine then_normal ?_
      refine awp_ret ?_
      repeat (first | refine then_ret ?_ | refine inBlock_ret ?_)
      refine rr rfl rfl ?_
      first | exact box_1 (.inl hg) | exact box_1 (.inr hc) | exact box_2 hg hc)
  · first
    | (cases hc; done)
    | (
      refine awp_skip ?_
      refine then_normal ?_
      refine awp_seq ?_
      (have h0 := far_nn hc) <;> (
      refine awp_region ?_
      refine rv rfl rfl (?_)
      refine ra rfl rfl rfl (?_)
      refine rs rfl rfl rfl rfl rfl rfl rfl (?_)
      refine rn ?_
      refine then_normal ?_
      refine awp_seq ?_
      refine awp_region ?_
      refine rv rfl rfl (?_)
      refine rv rfl rfl (?_)
      refine rn ?_
      refine then_normal ?_
      refine awp_seq ?_
      refine awp_dp (m := 13) Try.mix (by kernel_rfl) (by kernel_rfl) (by kernel_rfl) (by kernel_rfl) (by kernel_rfl) (by kernel_rfl) (by kernel_rfl) ?_
      refine dv rfl rfl (fun _ => rfl) ?_
      refine dv rfl rfl (fun _ => rfl) ?_
      refine df rfl rfl rfl (fun _ => blow_c h0) rfl ?_
      refine dv rfl rfl (fun _ => rfl) ?_
      refine dv rfl rfl (fun _ => rfl) ?_
      refine df rfl rfl rfl (fun _ => blow_c h0) rfl ?_
      refine dv rfl rfl (fun _ => rfl) ?_
      refine dv rfl rfl (fun _ => rfl) ?_
      refine df rfl rfl rfl (fun _ => bhigh_c h0) rfl ?_
      refine dv rfl rfl (fun _ => rfl) ?_
      refine dv rfl rfl (fun _ => rfl) ?_
      refine df rfl rfl rfl (fun _ => bhigh_c h0) rfl ?_
      refine dv rfl rfl (fun _ => rfl) ?_
      refine dn ?_
      refine rs rfl rfl rfl rfl rfl rfl rfl (?_)
      refine rv rfl rfl (?_)
      refine rn ?_
      refine then_normal ?_
      refine awp_ret ?_
      repeat (first | refine then_ret ?_ | refine inBlock_ret ?_)
      refine rr rfl rfl ?_
      first | exact box_1 (.inl hg) | exact box_1 (.inr hc) | exact box_2 hg hc)))))
end

def twoK (k : Nat) : Int := ((2 ^ k : Nat) : Int)
theorem two_step {i : Nat} (h : i < 40) : IntKind.wrap .i64 (2 * twoK i) = twoK (i + 1) := by
  have hp : 2 ^ i < 2 ^ 40 := Nat.pow_lt_pow_right (by omega) h
  have := wrap_i64 (m := 2 ^ (i + 1)) (by rw [Nat.pow_succ]; omega)
  unfold twoK
  rw [← this]
  congr 1
  rw [Nat.pow_succ]; push_cast; omega
theorem lt_of_dec {i k : Nat} (h : decide ((i : Int) < (k : Int)) = true) : i < k := by simp at h; omega
theorem eq_of_dec {i k : Nat} (h : decide ((i : Int) < (k : Int)) = false) (hi : i ≤ k) : i = k := by simp at h; omega

section
attribute [local irreducible] awp aops DP PCall ACall Decidable.decide
/-- `plover/ploverref01.two` -/
theorem two_c {k : Nat} (hk : k ≤ 40) : PCall Try.prog 112 [.int .i64 ((k : Nat) : Int)] (· = .int .i64 (twoK k)) := by
  refine pcall_body Try.func112 rfl (by kernel_rfl) (by rfl) ?_
  refine awp_seq ?_
  refine awp_region ?_
  refine rv rfl rfl (?_)
  refine rn ?_
  refine then_normal ?_
  refine awp_seq ?_
  refine awp_region ?_
  refine rv rfl rfl (?_)
  refine rn ?_
  refine then_normal ?_
  refine awp_seq ?_
  refine awp_seq ?_
  refine awp_region ?_
  refine rv rfl rfl (?_)
  refine rn ?_
  refine then_normal ?_
  refine awp_block ?_
  refine awp_loop (ι := Nat) (fun i => ⟨[(0, .int .i64 ((k : Nat) : Int)), (2, .int .i64 0), (3, .int .i64 (twoK i)), (4, .int .i64 ((i : Nat) : Int))], [], [], 0⟩) (fun i => i ≤ k) (fun i => k - i) (0) (by omega) ?_ (fun _ => Nat.zero_le _) (fun i hi => ?_)
  · refine ⟨Nat.le_of_ble_eq_true rfl, ?_, ?_, ?_⟩
    · refine ⟨⟨?_, rfl⟩, ?_⟩
      · first | rfl | ((first | refine ei ?_ | refine eh ?_ | refine eb ?_ | refine ehb ?_ | skip); exact W_succ hlt (by unfold maxLen; omega))
      refine ⟨⟨?_, rfl⟩, ?_⟩
      · first | rfl | ((first | refine ei ?_ | refine eh ?_ | refine eb ?_ | refine ehb ?_ | skip); exact W_succ hlt (by unfold maxLen; omega))
      refine ⟨⟨?_, rfl⟩, ?_⟩
      · first | rfl | ((first | refine ei ?_ | refine eh ?_ | refine eb ?_ | refine ehb ?_ | skip); exact W_succ hlt (by unfold maxLen; omega))
      refine ⟨⟨?_, rfl⟩, ?_⟩
      · first | rfl | ((first | refine ei ?_ | refine eh ?_ | refine eb ?_ | refine ehb ?_ | skip); exact W_succ hlt (by unfold maxLen; omega))
      exact trivial
    · exact trivial
    · exact trivial
  refine awp_seq ?_
  refine awp_seq ?_
  refine awp_region ?_
  refine rv rfl rfl (?_)
  refine rv rfl rfl (?_)
  refine rv rfl rfl (?_)
  refine rn ?_
  refine then_normal ?_
  refine cs_ rfl (fun hc => ?_) (fun hc => ?_)
  · first
    | (cases hc; done)
    | (
      refine awp_skip ?_
      refine then_normal ?_
      refine awp_seq ?_
      refine awp_block ?_
      (have hlt := lt_of_dec hc) <;> (
      refine awp_region ?_
      refine rv rfl rfl (?_)
      refine rv' rfl (opv_eq rfl (two_step (by omega))) (?_)
      refine rv rfl rfl (?_)
      refine rn ?_
      refine inBlock_normal ?_
      refine then_normal ?_
      refine awp_region ?_
      refine rv rfl rfl (?_)
      refine rv rfl rfl (?_)
      refine rv rfl rfl (?_)
      refine rn ?_
      refine then_normal ?_
      refine ⟨i + 1, by omega, by omega, ?_⟩
      refine ⟨Nat.le_of_ble_eq_true rfl, ?_, ?_, ?_⟩
      · refine ⟨⟨?_, rfl⟩, ?_⟩
        · first | rfl | ((first | refine ei ?_ | refine eh ?_ | refine eb ?_ | refine ehb ?_ | skip); exact W_succ hlt (by unfold maxLen; omega))
        refine ⟨⟨?_, rfl⟩, ?_⟩
        · first | rfl | ((first | refine ei ?_ | refine eh ?_ | refine eb ?_ | refine ehb ?_ | skip); exact W_succ hlt (by unfold maxLen; omega))
        refine ⟨⟨?_, rfl⟩, ?_⟩
        · first | rfl | ((first | refine ei ?_ | refine eh ?_ | refine eb ?_ | refine ehb ?_ | skip); exact W_succ hlt (by unfold maxLen; omega))
        refine ⟨⟨?_, rfl⟩, ?_⟩
        · first | rfl | ((first | refine ei ?_ | refine eh ?_ | refine eb ?_ | refine ehb ?_ | skip); exact W_succ hlt (by unfold maxLen; omega))
        exact trivial
      · exact trivial
      · exact trivial))
  · first
    | (cases hc; done)
    | (
      refine awp_exit ?_
      repeat (first | refine then_exit ?_ | refine inBlock_other rfl ?_)
      refine inBlock_exit ?_
      refine then_normal ?_
      refine awp_seq ?_
      (have he := eq_of_dec hc hi) <;> (
      refine awp_region ?_
      refine rv rfl rfl (?_)
      refine rv rfl rfl (?_)
      refine rn ?_
      refine then_normal ?_
      refine awp_ret ?_
      repeat (first | refine then_ret ?_ | refine inBlock_ret ?_)
      refine rr rfl rfl ?_
      (rw [he])))
end

end Go.Proofs.Ytngeejjllgnpcaa
