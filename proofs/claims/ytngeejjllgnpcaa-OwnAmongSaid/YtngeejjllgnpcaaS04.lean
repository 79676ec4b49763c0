/- Contracts, printed by a program of this session's. -/
import Derived.Test.YtngeejjllgnpcaaPvT
import Derived.Test.YtngeejjllgnpcaaPwD
namespace Go.Proofs.Ytngeejjllgnpcaa
open Go.Pv
set_option maxRecDepth 100000
set_option maxHeartbeats 4000000
set_option linter.unusedSimpArgs false
set_option linter.unusedVariables false
set_option linter.unusedSectionVars false

theorem lt31 {i : Nat} (h : decide ((i : Int) < 31) = true) : i < 31 := by simp at h; omega
theorem not31 {i : Nat} (h : decide ((i : Int) < 31) = false) (k : i ≤ 31) : i = 31 := by simp at h; omega
theorem two_mul {i : Nat} (h : i < 31) : IntKind.wrap .i64 (2 * (i : Int)) = ((2 * i : Nat) : Int) := by
  have := wrap_i64 (m := 2 * i) (by omega)
  rw [← this]; push_cast; rfl
theorem succ31 {i : Nat} (h : i < 31) : IntKind.wrap .i64 ((i : Int) + 1) = ((i + 1 : Nat) : Int) := W_succ (n := 31) h (by unfold maxLen; omega)
theorem one_and {m i : Nat} (h : m < 18446744073709551616) : bits .and .u64 ((m >>> i : Nat) : Int) 1 = (((m >>> i) &&& 1 : Nat) : Int) :=
  andN (n := 1) (Nat.lt_of_le_of_lt (Nat.shiftRight_le _ _) h) (by omega)
theorem or_sp {m i : Nat} (h : i < 31) : bits .or .u64 ((spN m i : Nat) : Int) (((((m >>> i) &&& 1) <<< (2 * i) : Nat)) : Int) = ((spN m (i + 1) : Nat) : Int) :=
  orN (Nat.lt_of_lt_of_le (spN_lt m i) (Nat.pow_le_pow_right (show 0 < 2 by omega) (show _ ≤ 64 by omega))) (Nat.lt_of_lt_of_le (shl_lt (bit_le _) (show 2 * i < 64 by omega)) (by decide))
theorem or_ga {m i : Nat} (h : i < 31) : bits .or .u64 ((gaN m i : Nat) : Int) (((((m >>> (2 * i)) &&& 1) <<< i : Nat)) : Int) = ((gaN m (i + 1) : Nat) : Int) :=
  orN (Nat.lt_of_lt_of_le (gaN_lt m i) (Nat.pow_le_pow_right (show 0 < 2 by omega) (show _ ≤ 64 by omega))) (Nat.lt_of_lt_of_le (shl_lt (bit_le _) (show i < 64 by omega)) (by decide))
theorem shl_bd {b j : Nat} (hb : b ≤ 1) (h : j < 64) : b * 2 ^ j < 18446744073709551616 := by
  rw [← Nat.shiftLeft_eq]; exact shl_lt (j := 64) hb h
theorem ga_end {m i : Nat} (h : i = 31) : IntKind.wrap .i64 ((gaN m i : Nat) : Int) = ((gaN m 31 : Nat) : Int) := by
  subst h
  exact wrap_i64 (Nat.lt_of_lt_of_le (gaN_lt m 31) (by decide))

section
attribute [local irreducible] awp aops DP PCall ACall Decidable.decide
/-- `plover/morton.spread` -/
theorem spread_c {m : Nat} (hm : m < 18446744073709551616) : PCall Try.prog 94 [.int .u64 ((m : Nat) : Int)] (· = .int .u64 ((spN m 31 : Nat) : Int)) := by
  refine pcall_body Try.func94 rfl (by kernel_rfl) (by rfl) ?_
  refine awp_seq ?_
  refine awp_region ?_
  refine rv rfl rfl (?_)
  refine rn ?_
  refine then_normal ?_
  refine awp_seq ?_
  refine awp_region ?_
  refine rv rfl rfl (?_)
  refine rn ?_
  refine then_normal ?_
  refine awp_seq ?_
  refine awp_seq ?_
  refine awp_region ?_
  refine rv rfl rfl (?_)
  refine rn ?_
  refine then_normal ?_
  refine awp_block ?_
  refine awp_loop (ι := Nat) (fun i => ⟨[(0, .int .u64 ((m : Nat) : Int)), (2, .int .u64 0), (3, .int .u64 ((spN m i : Nat) : Int)), (5, .int .i64 ((i : Nat) : Int))], [], [], 0⟩) (fun i => i ≤ 31) (fun i => 31 - i) (0) (by omega) ?_ (fun _ => Nat.zero_le _) (fun i hi => ?_)
  · refine ⟨Nat.le_of_ble_eq_true rfl, ?_, ?_, ?_⟩
    · refine ⟨⟨?_, rfl⟩, ?_⟩
      · first | rfl | ((first | refine ei ?_ | refine eh ?_ | refine eb ?_ | refine ehb ?_ | skip); fail)
      refine ⟨⟨?_, rfl⟩, ?_⟩
      · first | rfl | ((first | refine ei ?_ | refine eh ?_ | refine eb ?_ | refine ehb ?_ | skip); fail)
      refine ⟨⟨?_, rfl⟩, ?_⟩
      · first | rfl | ((first | refine ei ?_ | refine eh ?_ | refine eb ?_ | refine ehb ?_ | skip); fail)
      refine ⟨⟨?_, rfl⟩, ?_⟩
      · first | rfl | ((first | refine ei ?_ | refine eh ?_ | refine eb ?_ | refine ehb ?_ | skip); fail)
      exact trivial
    · exact trivial
    · exact trivial
  refine awp_seq ?_
  refine awp_region ?_
  refine rv rfl rfl (?_)
  refine rn ?_
  refine then_normal ?_
  refine awp_seq ?_
  refine cs_ rfl (fun hc => ?_) (fun hc => ?_)
  · first
    | (cases hc; done)
    | (
      refine awp_skip ?_
      refine then_normal ?_
      refine awp_seq ?_
      refine awp_block ?_
      refine awp_seq ?_
      (have hlt := lt31 hc) <;> (
      refine awp_region ?_
      refine rv rfl rfl (?_)
      refine rv rfl rfl (?_)
      refine rn ?_
      refine then_normal ?_
      refine awp_region ?_
      refine rv rfl rfl (?_)
      refine rv rfl rfl (?_)
      refine rv rfl rfl (?_)
      refine rv' rfl (shrN rfl rfl (by omega)) (?_)
      refine rv' rfl (opv_eq rfl (one_and hm)) (?_)
      refine rv rfl rfl (?_)
      refine rv' rfl (opv_eq rfl (two_mul hlt)) (?_)
      refine rv' rfl (shlN rfl rfl (by omega) (shl_bd (bit_le _) (by omega))) (?_)
      refine rv' rfl (opv_eq rfl (or_sp hlt)) (?_)
      refine rv rfl rfl (?_)
      refine rn ?_
      refine inBlock_normal ?_
      refine then_normal ?_
      refine awp_region ?_
      refine rv' rfl (opv_eq rfl (succ31 hlt)) (?_)
      refine rv rfl rfl (?_)
      refine rn ?_
      refine then_normal ?_
      refine ⟨i + 1, by omega, by omega, ?_⟩
      refine ⟨Nat.le_of_ble_eq_true rfl, ?_, ?_, ?_⟩
      · refine ⟨⟨?_, rfl⟩, ?_⟩
        · first | rfl | ((first | refine ei ?_ | refine eh ?_ | refine eb ?_ | refine ehb ?_ | skip); fail)
        refine ⟨⟨?_, rfl⟩, ?_⟩
        · first | rfl | ((first | refine ei ?_ | refine eh ?_ | refine eb ?_ | refine ehb ?_ | skip); fail)
        refine ⟨⟨?_, rfl⟩, ?_⟩
        · first | rfl | ((first | refine ei ?_ | refine eh ?_ | refine eb ?_ | refine ehb ?_ | skip); fail)
        refine ⟨⟨?_, rfl⟩, ?_⟩
        · first | rfl | ((first | refine ei ?_ | refine eh ?_ | refine eb ?_ | refine ehb ?_ | skip); fail)
        exact trivial
      · exact trivial
      · exact trivial))
  · first
    | (cases hc; done)
    | (
      refine awp_exit ?_
      repeat (first | refine then_exit ?_ | refine inBlock_other rfl ?_)
      refine inBlock_exit ?_
      refine then_normal ?_
      refine awp_seq ?_
      refine awp_region ?_
      refine rv rfl rfl (?_)
      refine rv rfl rfl (?_)
      refine rn ?_
      refine then_normal ?_
      refine awp_ret ?_
      repeat (first | refine then_ret ?_ | refine inBlock_ret ?_)
      refine rr rfl rfl ?_
      (rw [not31 hc hi]))
end

end Go.Proofs.Ytngeejjllgnpcaa
