/- Contracts, printed by a program of this session's. -/
import Derived.Test.YtfonfgnbjkpanaaS11
namespace Go.Proofs.Ytfonfgnbjkpanaa
open Go.Pv
set_option maxRecDepth 100000
set_option maxHeartbeats 4000000
set_option linter.unusedSimpArgs false
set_option linter.unusedVariables false
set_option linter.unusedSectionVars false

theorem toList_eq_iff {a b : Bs} : (((⟨a.toArray⟩ : ByteArray).toList == (⟨b.toArray⟩ : ByteArray).toList) = true) ↔ a = b := by
  rw [ByteArray.toList_mk, ByteArray.toList_mk]; simp
theorem bytesR_mk (l : Bs) : bytesR ⟨l.toArray⟩ = bR l := rfl
theorem nR_get {l : List Bs} {i : Nat} (h : i < l.length) : (nR l)[((i : Int)).toNat]? = some [.sl (bR (l[i]'h))] := by simp [nR, h]
theorem bR_get {l : Bs} {i : Nat} (h : i < l.length) : (bR l)[((i : Int)).toNat]? = some [.int .u8 ((l[i]'h).toNat : Int)] := by simp [bR, h]
theorem lt_of_dec {i : Nat} {n : Nat} (h : decide ((i : Int) < (n : Int)) = true) : i < n := by simpa using h
theorem not_lt_of_dec {i : Nat} {n : Nat} (h : decide ((i : Int) < (n : Int)) = false) : ¬ i < n := by simpa using h
def wholeI (a b : List Bs) (i : Nat) : Prop := i ≤ a.length ∧ a.length = b.length ∧ a.take i = b.take i
theorem whole_len {a b : List Bs} (h : (((nR a).length : Int) != ((nR b).length : Int)) = true) : decide (a = b) = false := by
  rw [nR_length, nR_length] at h
  simp only [bne_iff_ne, ne_eq, Int.natCast_inj] at h
  simp only [decide_eq_false_iff_not]
  intro e; subst e; exact h rfl
theorem whole_len' {a b : List Bs} (h : (((nR a).length : Int) != ((nR b).length : Int)) = false) : a.length = b.length := by
  rw [nR_length, nR_length] at h
  have : (a.length : Int) = b.length := by simpa using h
  omega
theorem whole_ne {a b : List Bs} {i : Nat} (h : i < a.length) (k : i < b.length) (hc : (!((⟨(a[i]).toArray⟩ : ByteArray).toList == (⟨(b[i]).toArray⟩ : ByteArray).toList)) = true) : decide (a = b) = false := by
  rw [Bool.not_eq_true', ← Bool.not_eq_true, toList_eq_iff] at hc
  simp only [decide_eq_false_iff_not]
  intro e; subst e; exact hc rfl
theorem whole_eq {a b : List Bs} {i : Nat} (h : i < a.length) (k : i < b.length) (hI : wholeI a b i) (hc : (!((⟨(a[i]).toArray⟩ : ByteArray).toList == (⟨(b[i]).toArray⟩ : ByteArray).toList)) = false) : wholeI a b (i + 1) := by
  rw [Bool.not_eq_false', toList_eq_iff] at hc
  refine ⟨h, hI.2.1, ?_⟩
  rw [List.take_add_one, List.take_add_one, hI.2.2, List.getElem?_eq_getElem h, List.getElem?_eq_getElem k, hc]
theorem whole_end {a b : List Bs} {i : Nat} (hI : wholeI a b i) (h : ¬ i < (nR a).length) : decide (a = b) = true := by
  rw [nR_length] at h
  have h1 : a.take i = a := List.take_of_length_le (by omega)
  have h2 : b.take i = b := List.take_of_length_le (by have := hI.2.1; omega)
  have := hI.2.2
  rw [h1, h2] at this
  simpa using this

section
attribute [local irreducible] awp aops DP PCall ACall Decidable.decide
/-- `plover/ploverlaw11.whole` -/
theorem whole_c {a b : List Bs} (hl : a.length ≤ maxLen) : PCall Try.prog 42 [.sl (nR a), .sl (nR b)] (· = .bool (decide (a = b))) := by
  refine pcall_body Try.func42 rfl (by kernel_rfl) (by rfl) ?_
  refine awp_seq ?_
  refine awp_region ?_
  refine rv rfl rfl (?_)
  refine rn ?_
  refine then_normal ?_
  refine awp_seq ?_
  refine awp_seq ?_
  refine awp_region ?_
  refine rv rfl rfl (?_)
  refine rv rfl rfl (?_)
  refine rv rfl rfl (?_)
  refine rv rfl rfl (?_)
  refine rv rfl rfl (?_)
  refine rn ?_
  refine then_normal ?_
  refine cs_ rfl (fun hc => ?_) (fun hc => ?_)
  · first
    | (cases hc; done)
    | (
      refine awp_seq ?_
      refine awp_region ?_
      refine rv rfl rfl (?_)
      refine rn ?_
      refine then_normal ?_
      refine awp_ret ?_
      repeat (first | refine then_ret ?_ | refine inBlock_ret ?_)
      refine rr rfl rfl ?_
      first | (rw [whole_len hc]; done) | (rw [whole_ne hlt hlt' hc]; done) | (rw [whole_end hi (not_lt_of_dec hc)]; done))
  · first
    | (cases hc; done)
    | (
      refine awp_skip ?_
      refine then_normal ?_
      refine awp_seq ?_
      refine awp_seq ?_
      (have hlen := whole_len' hc) <;> (
      refine awp_region ?_
      refine rv rfl rfl (?_)
      refine rn ?_
      refine then_normal ?_
      refine awp_block ?_
      refine awp_loop (ι := Nat) (fun i => ⟨[(0, .sl (nR a)), (1, .sl (nR b)), (5, .int .i64 (i : Int))], [], [], 0⟩) (fun i => wholeI a b i) (fun i => a.length - i) (0) (⟨Nat.zero_le _, hlen, rfl⟩) ?_ (fun _ => Nat.zero_le _) (fun i hi => ?_)
      · refine ⟨Nat.le_of_ble_eq_true rfl, ?_, ?_, ?_⟩
        · refine ⟨⟨?_, rfl⟩, ?_⟩
          · first | rfl | ((first | refine ei ?_ | refine eh ?_ | refine eb ?_ | refine ehb ?_ | skip); exact W_succ hlt hl)
          refine ⟨⟨?_, rfl⟩, ?_⟩
          · first | rfl | ((first | refine ei ?_ | refine eh ?_ | refine eb ?_ | refine ehb ?_ | skip); exact W_succ hlt hl)
          refine ⟨⟨?_, rfl⟩, ?_⟩
          · first | rfl | ((first | refine ei ?_ | refine eh ?_ | refine eb ?_ | refine ehb ?_ | skip); exact W_succ hlt hl)
          exact trivial
        · exact trivial
        · exact trivial
      refine awp_seq ?_
      refine awp_seq ?_
      refine awp_region ?_
      refine rv rfl rfl (?_)
      refine rv rfl rfl (?_)
      refine rv rfl rfl (?_)
      refine rv rfl rfl (?_)
      refine rn ?_
      refine then_normal ?_
      refine cs_ rfl (fun hc => ?_) (fun hc => ?_)
      · first
        | (cases hc; done)
        | (
          refine awp_skip ?_
          refine then_normal ?_
          refine awp_seq ?_
          refine awp_block ?_
          refine awp_seq ?_
          (have hlt : i < a.length := by { have := lt_of_dec hc; rwa [nR_length] at this }; have hlt' : i < b.length := by { have := hi.2.1; omega }; rename_i hx) <;> (
          refine awp_dp (m := 11) Try.mix (by kernel_rfl) (by kernel_rfl) (by kernel_rfl) (by kernel_rfl) (by kernel_rfl) (by kernel_rfl) (by kernel_rfl) ?_
          refine dv rfl rfl (fun _ => rfl) ?_
          refine dv rfl rfl (fun _ => rfl) ?_
          refine di rfl rfl rfl rfl rfl (fun _ => rfl) rfl (Int.natCast_nonneg i) (nR_get hlt) (nR_plain _).wide ?_
          refine dv rfl rfl (fun _ => rfl) ?_
          refine dV rfl rfl (fun m => va_text (b := ⟨(a[i]'hlt).toArray⟩) rfl rfl rfl rfl rfl rfl rfl rfl) ?_
          refine dv rfl rfl (fun _ => rfl) ?_
          refine dv rfl rfl (fun _ => rfl) ?_
          refine di rfl rfl rfl rfl rfl (fun _ => rfl) rfl (Int.natCast_nonneg i) (nR_get hlt') (nR_plain _).wide ?_
          refine dv rfl rfl (fun _ => rfl) ?_
          refine dV rfl rfl (fun m => va_text (b := ⟨(b[i]'hlt').toArray⟩) rfl rfl rfl rfl rfl rfl rfl rfl) ?_
          refine dv rfl rfl (fun _ => rfl) ?_
          refine dn ?_
          refine rn ?_
          refine then_normal ?_
          refine cs_ rfl (fun hc => ?_) (fun hc => ?_)
          · first
            | (cases hc; done)
            | (
              refine awp_seq ?_
              refine awp_region ?_
              refine rv rfl rfl (?_)
              refine rn ?_
              refine then_normal ?_
              refine awp_ret ?_
              repeat (first | refine then_ret ?_ | refine inBlock_ret ?_)
              refine rr rfl rfl ?_
              first | (rw [whole_len hc]; done) | (rw [whole_ne hlt hlt' hc]; done) | (rw [whole_end hi (not_lt_of_dec hc)]; done))
          · first
            | (cases hc; done)
            | (
              refine awp_skip ?_
              refine inBlock_normal ?_
              refine then_normal ?_
              refine awp_region ?_
              refine rv rfl rfl (?_)
              refine rv rfl rfl (?_)
              refine rv rfl rfl (?_)
              refine rn ?_
              refine then_normal ?_
              refine ⟨i + 1, whole_eq hlt hlt' hi (by assumption), by omega, ?_⟩
              refine ⟨Nat.le_of_ble_eq_true rfl, ?_, ?_, ?_⟩
              · refine ⟨⟨?_, rfl⟩, ?_⟩
                · first | rfl | ((first | refine ei ?_ | refine eh ?_ | refine eb ?_ | refine ehb ?_ | skip); exact W_succ hlt hl)
                refine ⟨⟨?_, rfl⟩, ?_⟩
                · first | rfl | ((first | refine ei ?_ | refine eh ?_ | refine eb ?_ | refine ehb ?_ | skip); exact W_succ hlt hl)
                refine ⟨⟨?_, rfl⟩, ?_⟩
                · first | rfl | ((first | refine ei ?_ | refine eh ?_ | refine eb ?_ | refine ehb ?_ | skip); exact W_succ hlt hl)
                exact trivial
              · exact trivial
              · exact trivial)))
      · first
        | (cases hc; done)
        | (
          refine awp_exit ?_
          repeat (first | refine then_exit ?_ | refine inBlock_other rfl ?_)
          refine inBlock_exit ?_
          refine then_normal ?_
          refine awp_seq ?_
          refine awp_region ?_
          refine rv rfl rfl (?_)
          refine rn ?_
          refine then_normal ?_
          refine awp_ret ?_
          repeat (first | refine then_ret ?_ | refine inBlock_ret ?_)
          refine rr rfl rfl ?_
          first | (rw [whole_len hc]; done) | (rw [whole_ne hlt hlt' hc]; done) | (rw [whole_end hi (not_lt_of_dec hc)]; done))))
end

section
attribute [local irreducible] awp aops DP PCall ACall Decidable.decide
/-- `bytes.Clone` -/
theorem clone_c {x : Bs} (hl : x.length ≤ 100000000000) : PCall Try.prog 66 [.sl (bR x)] (· = .sl (bR x)) := by
  refine pcall_body Try.func66 rfl (by kernel_rfl) (by rfl) ?_
  refine awp_seq ?_
  refine awp_region ?_
  refine rv rfl rfl (?_)
  refine rn ?_
  refine then_normal ?_
  refine awp_seq ?_
  refine awp_seq ?_
  refine awp_region ?_
  refine rv rfl rfl (?_)
  refine rnil rfl rfl rfl rfl (fun b hb => ?_)
  refine rn ?_
  refine then_normal ?_
  refine cs_ rfl (fun hc => ?_) (fun hc => ?_)
  · first
    | (cases hc; done)
    | (
      refine awp_seq ?_
      refine awp_region ?_
      refine rv rfl rfl (?_)
      refine rn ?_
      refine then_normal ?_
      refine awp_ret ?_
      repeat (first | refine then_ret ?_ | refine inBlock_ret ?_)
      refine rr rfl rfl ?_
      first | (have h0 := hb hc; have : x = [] := by { cases x with | nil => rfl | cons _ _ => simp [bR] at h0 }; subst this; rfl) | (simp; done))
  · first
    | (cases hc; done)
    | (
      refine awp_skip ?_
      refine then_normal ?_
      refine awp_seq ?_
      refine awp_region ?_
      refine rbs false rfl rfl rfl rfl rfl rfl rfl rfl rfl rfl (?_)
      refine rv rfl rfl (?_)
      refine rap false rfl rfl rfl rfl rfl rfl rfl (.own rfl rfl) (.sl rfl rfl rfl) (bR_plain x).wide (bR_plain x).ones (by have := bR_length x; show (_ + _) * 1 ≤ _; simp; omega) rfl (?_)
      refine rv rfl rfl (?_)
      refine rn ?_
      refine then_normal ?_
      refine awp_ret ?_
      repeat (first | refine then_ret ?_ | refine inBlock_ret ?_)
      refine rr rfl rfl ?_
      first | (have h0 := hb hc; have : x = [] := by { cases x with | nil => rfl | cons _ _ => simp [bR] at h0 }; subst this; rfl) | (simp; done))
end

theorem le_of_dec {a b : Nat} (h : decide ((a : Int) > (b : Int)) = false) : a ≤ b := by simp at h; omega
def putB (l : Bs) : Bool := decide (l.length > 4000)
def putL (l : Bs) : Bs := [UInt8.ofNat (l.length / 256), UInt8.ofNat (l.length % 256)] ++ l
def putT (l : Bs) : AV := match putB l with
  | true => .tup [.sl [], .iface 47 (.int .i64 5)]
  | false => .tup [.sl (bR (putL l)), .nilI]
theorem shr8 {n : Nat} (h : n ≤ 4000) : IntKind.wrap .u8 ((n : Int).fdiv (2 ^ min (8 : Int).toNat (IntKind.bits .i64))) = ((UInt8.ofNat (n / 256)).toNat : Int) := by
  have e : min (8 : Int).toNat (IntKind.bits .i64) = 8 := by decide
  rw [e, Int.fdiv_eq_ediv_of_nonneg _ (by decide)]
  have e2 : (2 : Int) ^ 8 = 256 := by decide
  rw [e2, wrap_u8 (by omega)]
  rw [UInt8.toNat_ofNat']
  omega
where
  wrap_u8 {n : Int} (h : 0 ≤ n ∧ n < 256) : IntKind.wrap .u8 n = n := by
    have e : (2 : Int) ^ IntKind.u8.bits = 256 := by decide
    simp only [IntKind.wrap, e, IntKind.signed, Bool.false_and]
    simp; omega
theorem low8 {n : Nat} : IntKind.wrap .u8 (n : Int) = ((UInt8.ofNat (n % 256)).toNat : Int) := by
  have e : (2 : Int) ^ IntKind.u8.bits = 256 := by decide
  simp only [IntKind.wrap, e, IntKind.signed, Bool.false_and]
  rw [UInt8.toNat_ofNat']
  simp
theorem put_yes {l : Bs} (h : decide (((bR l).length : Int) > 4000) = false) :
    AV.tup [.sl ([[AV.int .u8 (IntKind.wrap .u8 (((bR l).length : Int).fdiv (2 ^ min (8 : Int).toNat (IntKind.bits .i64))))], [AV.int .u8 (IntKind.wrap .u8 ((bR l).length : Int))]] ++ bR l), .nilI] = putT l := by
  rw [bR_length] at h ⊢
  have h4 : l.length ≤ 4000 := by simp at h; omega
  have hb : putB l = false := by simp only [putB]; simpa using h4
  rw [shr8 h4, low8]
  simp only [putT, hb, putL]
  rfl
theorem put_no {l : Bs} (h : decide (((bR l).length : Int) > 4000) = true) : AV.tup [.sl [], .iface 47 (.int .i64 5)] = putT l := by
  rw [bR_length] at h
  have hb : putB l = true := by simp only [putB]; simp at h ⊢; omega
  simp only [putT, hb]
theorem put_bd {l : Bs} (h : decide (((bR l).length : Int) > 4000) = false) : (bR l).length ≤ 4000 := by rw [bR_length] at h ⊢; simp at h; omega

section
attribute [local irreducible] awp aops DP PCall ACall Decidable.decide
/-- `plover/frame.Put` -/
theorem put_c {l : Bs} : PCall Try.prog 45 [.sl (bR l)] (· = putT l) := by
  refine pcall_body Try.func45 rfl (by kernel_rfl) (by rfl) ?_
  refine awp_seq ?_
  refine awp_region ?_
  refine rv rfl rfl (?_)
  refine rv rfl rfl (?_)
  refine rn ?_
  refine then_normal ?_
  refine awp_seq ?_
  refine awp_seq ?_
  refine awp_region ?_
  refine rv rfl rfl (?_)
  refine rv rfl rfl (?_)
  refine rv rfl rfl (?_)
  refine rn ?_
  refine then_normal ?_
  refine cs_ rfl (fun hc => ?_) (fun hc => ?_)
  · first
    | (cases hc; done)
    | (
      refine awp_seq ?_
      refine awp_region ?_
      refine rv rfl rfl (?_)
      refine rv rfl rfl (?_)
      refine rv rfl rfl (?_)
      refine rn ?_
      refine then_normal ?_
      refine awp_ret ?_
      repeat (first | refine then_ret ?_ | refine inBlock_ret ?_)
      refine rr rfl rfl ?_
      first | exact put_no hc | exact put_yes hc)
  · first
    | (cases hc; done)
    | (
      refine awp_skip ?_
      refine then_normal ?_
      refine awp_seq ?_
      (have hbd := put_bd hc) <;> (
      refine awp_region ?_
      refine rv rfl rfl (?_)
      refine rv rfl rfl (?_)
      refine rv rfl rfl (?_)
      refine rv rfl rfl (?_)
      refine rv rfl rfl (?_)
      refine rv rfl rfl (?_)
      refine rv rfl rfl (?_)
      refine rbs false rfl rfl rfl rfl rfl rfl rfl rfl rfl rfl (?_)
      refine rv rfl rfl (?_)
      refine rap false rfl rfl rfl rfl rfl rfl rfl (.own rfl rfl) (.sl rfl rfl rfl) (bR_plain l).wide (bR_plain l).ones (by show (_ + _) * 1 ≤ _; simp; omega) rfl (?_)
      refine rv rfl rfl (?_)
      refine rv rfl rfl (?_)
      refine rn ?_
      refine then_normal ?_
      refine awp_ret ?_
      repeat (first | refine then_ret ?_ | refine inBlock_ret ?_)
      refine rr rfl rfl ?_
      first | exact put_no hc | exact put_yes hc))
end

end Go.Proofs.Ytfonfgnbjkpanaa
