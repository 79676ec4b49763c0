/- Contracts, printed by a program of this session's. -/
import Derived.Test.YtfonfgnbjkpanaaS11d
namespace Go.Proofs.Ytfonfgnbjkpanaa
open Go.Pv
set_option maxRecDepth 100000
set_option maxHeartbeats 4000000
set_option linter.unusedSimpArgs false
set_option linter.unusedVariables false
set_option linter.unusedSectionVars false

theorem put_up : PCall Try.prog 45 [.sl [[.int .u8 65]]] (· = .tup [.sl (bytesR ⟨#[0, 1, 65]⟩), .nilI]) := by
  have := put_c (l := [65])
  exact this
theorem parse_up : parse [0, 1, 65] = ([[65]], [], false) := by
  rw [parse_step (by decide) (by decide) (by decide)]
  have : List.drop (2 + num2 [0, 1, 65]) [0, 1, 65] = ([] : Bs) := by decide
  rw [this, parse_short (by decide)]
  rfl
theorem feed_up : feedB false [] [0, 1, 65] = false := by simp [feedB, parse_up]
theorem feedT_up : feedT false [] [0, 1, 65] false = .tup [.sl [[.sl [[.int .u8 65]]]], .nilI] := by
  simp only [feedT, feedO, List.nil_append, parse_up]; rfl
theorem feedR_up : feedR false [] [0, 1, 65] = [] := by simp [feedR, parse_up]
theorem feed_u : ACall Try.prog 40 2 [.ptr 0 0, .sl [[.int .u8 0], [.int .u8 1], [.int .u8 65]]] [(0, 0, .own 1), (0, 1, .bool false)] [(1, .row 1 (bR []))]
    (fun r H O n => r = .tup [.sl [[.sl [[.int .u8 65]]]], .nilI] ∧ H = [(0, 0, .own 2), (0, 1, .bool false)] ∧ O = [(2, .row 1 (bR []))] ∧ n = 3) := by
  have := feed_c (bad := false) (x := []) (y := [0, 1, 65]) (by decide) feed_up
  rw [feedT_up, feedR_up] at this
  exact this

section
attribute [local irreducible] awp aops DP PCall ACall Decidable.decide
/-- `plover/ploverlaw11.up` -/
theorem up11_c : PCall Try.prog 38 [] (· = .bool (true)) := by
  refine pcall_body Try.func38 rfl (by kernel_rfl) (by rfl) ?_
  refine awp_seq ?_
  refine awp_region ?_
  refine rv rfl rfl (?_)
  refine rn ?_
  refine then_normal ?_
  refine awp_seq ?_
  refine awp_region ?_
  refine rbs true rfl rfl rfl rfl rfl rfl rfl rfl rfl rfl (?_)
  refine rN rfl (na_same rfl rfl rfl rfl rfl rfl) (?_)
  (refine aops_conv (fun _ _ _ _ _ hi => wr_still 1 rfl rfl rfl hi) ?_) <;> (
  refine rc1 rfl rfl rfl put_up (?_)
  refine rv rfl rfl (?_)
  refine rv rfl rfl (?_)
  refine rv rfl rfl (?_)
  refine rv rfl rfl (?_)
  refine rv rfl rfl (?_)
  refine rn ?_
  refine then_normal ?_
  refine awp_seq ?_
  refine awp_region ?_
  refine rh [] rfl rfl new_c rfl rfl rfl (by repeat (first | exact trivial | refine ⟨⟨⟨_, rfl, .inl rfl⟩, rfl, rfl⟩, ?_⟩ | refine ⟨⟨⟨_, rfl, .inr rfl⟩, rfl, rfl⟩, ?_⟩)) (by repeat (first | exact trivial | refine ⟨⟨⟨_, rfl, by first | exact .row | exact .ren rfl⟩, rfl⟩, ?_⟩)) ?_; rintro _ _ _ _ ⟨rfl, rfl, rfl, rfl⟩; refine as1 rfl ?_; refine ae rfl rfl rfl ?_
  refine rv rfl rfl (?_)
  refine rn ?_
  refine then_normal ?_
  refine awp_seq ?_
  refine awp_seq ?_
  refine awp_region ?_
  refine rv rfl rfl (?_)
  refine rv rfl rfl (?_)
  refine rn ?_
  refine then_normal ?_
  refine cs_ rfl (fun hc => ?_) (fun hc => ?_)
  · first
    | (cases hc; done)
    | (
      refine awp_seq ?_
      refine awp_region ?_
      refine rv rfl rfl (?_)
      refine rn ?_
      refine then_normal ?_
      refine awp_ret ?_
      repeat (first | refine then_ret ?_ | refine inBlock_ret ?_)
      refine rr rfl rfl ?_
      first | rfl | (exfalso; simp_all [ByteArray.toList_mk]; done) | (trace_state; done))
  · first
    | (cases hc; done)
    | (
      refine awp_skip ?_
      refine then_normal ?_
      refine awp_seq ?_
      refine awp_region ?_
      refine rv rfl rfl (?_)
      refine rbs false rfl rfl rfl rfl rfl rfl rfl rfl rfl rfl (?_)
      refine rh [2, 3] rfl rfl feed_u rfl rfl rfl (by repeat (first | exact trivial | refine ⟨⟨⟨_, rfl, .inl rfl⟩, rfl, rfl⟩, ?_⟩ | refine ⟨⟨⟨_, rfl, .inr rfl⟩, rfl, rfl⟩, ?_⟩)) (by repeat (first | exact trivial | refine ⟨⟨⟨_, rfl, by first | exact .row | exact .ren rfl⟩, rfl⟩, ?_⟩)) ?_; rintro _ _ _ _ ⟨rfl, rfl, rfl, rfl⟩; refine as1 rfl ?_; refine ae rfl rfl rfl ?_
      refine rv rfl rfl (?_)
      refine rv rfl rfl (?_)
      refine rv rfl rfl (?_)
      refine rv rfl rfl (?_)
      refine rv rfl rfl (?_)
      refine rn ?_
      refine then_normal ?_
      refine awp_seq ?_
      refine awp_region ?_
      refine rv rfl rfl (?_)
      refine rv rfl rfl (?_)
      refine rv rfl rfl (?_)
      (first | refine gy rfl rfl rfl (rv rfl rfl (?_)) | refine gn rfl rfl rfl rfl rfl ?_ | refine gu rfl rfl rfl rfl ?_ | refine gs rfl rfl rfl rfl rfl (fun hg => rv rfl rfl (?_)) (fun hg => ?_)) <;> (
      (first | refine gy rfl rfl rfl (rV rfl (va_text (b := ⟨#[0, 1, 65]⟩) rfl rfl rfl rfl rfl rfl rfl rfl) (?_)) | refine gn rfl rfl rfl rfl rfl ?_ | refine gu rfl rfl rfl rfl ?_ | refine gs rfl rfl rfl rfl rfl (fun hg => rV rfl (va_text (b := ⟨#[0, 1, 65]⟩) rfl rfl rfl rfl rfl rfl rfl rfl) (?_)) (fun hg => ?_)) <;> (
      (first | refine gy rfl rfl rfl (rv rfl rfl (?_)) | refine gn rfl rfl rfl rfl rfl ?_ | refine gu rfl rfl rfl rfl ?_ | refine gs rfl rfl rfl rfl rfl (fun hg => rv rfl rfl (?_)) (fun hg => ?_)) <;> (
      refine rv rfl rfl (?_)
      refine rv rfl rfl (?_)
      (first | refine gy rfl rfl rfl (rv rfl rfl (?_)) | refine gn rfl rfl rfl rfl rfl ?_ | refine gu rfl rfl rfl rfl ?_ | refine gs rfl rfl rfl rfl rfl (fun hg => rv rfl rfl (?_)) (fun hg => ?_)) <;> (
      (first | refine gy rfl rfl rfl (rv rfl rfl (?_)) | refine gn rfl rfl rfl rfl rfl ?_ | refine gu rfl rfl rfl rfl ?_ | refine gs rfl rfl rfl rfl rfl (fun hg => rv rfl rfl (?_)) (fun hg => ?_)) <;> (
      refine rv rfl rfl (?_)
      refine rv rfl rfl (?_)
      (first | refine gy rfl rfl rfl (rv rfl rfl (?_)) | refine gn rfl rfl rfl rfl rfl ?_ | refine gu rfl rfl rfl rfl ?_ | refine gs rfl rfl rfl rfl rfl (fun hg => rv rfl rfl (?_)) (fun hg => ?_)) <;> (
      (first | refine gy rfl rfl rfl (rv rfl rfl (?_)) | refine gn rfl rfl rfl rfl rfl ?_ | refine gu rfl rfl rfl rfl ?_ | refine gs rfl rfl rfl rfl rfl (fun hg => rv rfl rfl (?_)) (fun hg => ?_)) <;> (
      (first | refine gy rfl rfl rfl (rv rfl rfl (?_)) | refine gn rfl rfl rfl rfl rfl ?_ | refine gu rfl rfl rfl rfl ?_ | refine gs rfl rfl rfl rfl rfl (fun hg => rv rfl rfl (?_)) (fun hg => ?_)) <;> (
      refine rv rfl rfl (?_)
      refine rv rfl rfl (?_)
      (first | refine gy rfl rfl rfl (rv rfl rfl (?_)) | refine gn rfl rfl rfl rfl rfl ?_ | refine gu rfl rfl rfl rfl ?_ | refine gs rfl rfl rfl rfl rfl (fun hg => rv rfl rfl (?_)) (fun hg => ?_)) <;> (
      (first | (refine gy rfl rfl rfl ?_; refine rh [2, 5] rfl rfl (end_c (x := []) (bad := false) (k := 0) rfl) rfl rfl rfl (by repeat (first | exact trivial | refine ⟨⟨⟨_, rfl, .inl rfl⟩, rfl, rfl⟩, ?_⟩ | refine ⟨⟨⟨_, rfl, .inr rfl⟩, rfl, rfl⟩, ?_⟩)) (by repeat (first | exact trivial | refine ⟨⟨⟨_, rfl, by first | exact .row | exact .ren rfl⟩, rfl⟩, ?_⟩)) ?_; rintro _ _ _ _ ⟨rfl, rfl, rfl, rfl⟩; refine as1 rfl ?_; refine ae rfl rfl rfl ?_) | refine gn rfl rfl rfl rfl rfl ?_ | refine gu rfl rfl rfl rfl ?_ | (refine gs rfl rfl rfl rfl rfl (fun hg => ?_) (fun hg => ?_) <;> first | (refine rh [2, 5] rfl rfl (end_c (x := []) (bad := false) (k := 0) rfl) rfl rfl rfl (by repeat (first | exact trivial | refine ⟨⟨⟨_, rfl, .inl rfl⟩, rfl, rfl⟩, ?_⟩ | refine ⟨⟨⟨_, rfl, .inr rfl⟩, rfl, rfl⟩, ?_⟩)) (by repeat (first | exact trivial | refine ⟨⟨⟨_, rfl, by first | exact .row | exact .ren rfl⟩, rfl⟩, ?_⟩)) ?_; rintro _ _ _ _ ⟨rfl, rfl, rfl, rfl⟩; refine as1 rfl ?_; refine ae rfl rfl rfl ?_) | skip)) <;> (
      (first | refine gy rfl rfl rfl (rv rfl rfl (?_)) | refine gn rfl rfl rfl rfl rfl ?_ | refine gu rfl rfl rfl rfl ?_ | refine gs rfl rfl rfl rfl rfl (fun hg => rv rfl rfl (?_)) (fun hg => ?_)) <;> (
      refine rv rfl rfl (?_)
      refine rv rfl rfl (?_)
      refine rn ?_
      refine then_normal ?_
      refine awp_ret ?_
      repeat (first | refine then_ret ?_ | refine inBlock_ret ?_)
      refine rr rfl rfl ?_
      first | rfl | (exfalso; simp_all [ByteArray.toList_mk]; done) | (trace_state; done))))))))))))))
end

end Go.Proofs.Ytfonfgnbjkpanaa
