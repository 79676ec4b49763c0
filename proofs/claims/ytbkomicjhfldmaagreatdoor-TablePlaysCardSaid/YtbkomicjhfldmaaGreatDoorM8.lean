/- The texts of a proof, put together by a program of this session's; names are short for the size's sake. -/
import Derived.Test.YtbkomicjhfldmaaGreatDoorM7
namespace Go.Proofs.YtbkomicjhfldmaaGreatDoor
open Go.Pv
set_option maxRecDepth 100000
set_option maxHeartbeats 4000000
set_option linter.unusedSimpArgs false
set_option linter.unusedVariables false
set_option linter.unusedSectionVars false
def ki (a b c d : Int) : Bool := a == 0 && (b == 0 && (c == 0 && (d == 0 && true)))
def dm (a b c d : Int) (l : List Pt) : Bool := match l with
 | [] => eL a b c d
 | _ :: _ => ki a b c d && bT l
theorem wk {a b c d : Int} {l : List Pt} (h : (((rows l).length : Int) == 0) = true) : eL a b c d = dm a b c d l := by
 cases l with
 | nil => rfl
 | cons q t => simp [rows] at h; omega
theorem FC {l : List Pt} (h : (((rows l).length : Int) == 0) = false) : ∃ q t, l = q :: t := by
 cases l with
 | nil => simp [rows] at h
 | cons q t => exact ⟨q, t, rfl⟩
theorem wh {a b c d : Int} {l : List Pt} (h : (((rows l).length : Int) == 0) = false) : (ki a b c d && bT l) = dm a b c d l := by
 obtain ⟨q, t, rfl⟩ := FC h; rfl
theorem wm {a b c d : Int} {l : List Pt} (h : (((rows l).length : Int) == 0) = false) (hz : ki a b c d = false) : false = dm a b c d l := by rw [← wh h, hz]; rfl
theorem wu {a b c d : Int} {l : List Pt} (h : (((rows l).length : Int) == 0) = false) (hz : ki a b c d = true) : bT l = dm a b c d l := by rw [← wh h, hz]; rfl
theorem vY {a b c d : Int} {l : List Pt} (h : (((rows l).length : Int) == 0) = false) (hz : bT l = false) : false = dm a b c d l := by rw [← wh h, hz, Bool.and_false]
theorem w8 {a b c d : Int} {l : List Pt} (h : (((rows l).length : Int) == 0) = false) (hz : bT l = true) : ki a b c d = dm a b c d l := by rw [← wh h, hz, Bool.and_true]
section
attribute [local irreducible] cg aM DP ai aP Decidable.decide Nat.mod bT cA eL dm pR inR box du cP
theorem y3 {a b c d : Int} {l : List Pt} (hl : l.length ≤ maxLen) : ai Tryz.prog 43 [.agg [.int .i64 (a), .int .i64 (b), .int .i64 (c), .int .i64 (d), .sl (rows l)]] (· = .bool (dm a b c d l)) := by
 refine cf Tryz.func43 ?_
 refine ag (rb Z Z (rv Z Z (rn (aS (ag (rg 4 rfl (rn (ak ?_))))))))
 refine fB rfl (fun hc => ?_) (fun hc => ?_)
 ·
  first
  | (cases hc; done)
  | (
   refine ag (rg 2 rfl (bt Z Z Z De (rv Z Z (rn (aT ?_)))))
   repeat (first | refine an ?_ | refine ac ?_)
   refine rr Z Z ?_
   first | exact eb (wk (by assumption)) | exact eb (wm (by assumption) (by first | assumption | (simpa [ki] using (by assumption)))) | exact eb (wu (by assumption) (by first | assumption | (simpa [ki] using hg))) | exact eb (vY (by assumption) (by assumption)) | exact eb (w8 (by assumption) (by assumption)) | trace_state)
 ·
  first
  | (cases hc; done)
  | (
   refine aK (ag (rg 5 rfl ?_))
   (iterate 2 all_goals (first | refine d6 (rv Z Z ?_) | refine d7 ?_ | refine d8 ?_ | refine gs Z Z Z Z Z (fun hg => rv Z Z ?_) fun hg => ?_)) <;> (
   (first | refine d6 (bt Z Z Z (ta hl) (?_)) | refine d7 ?_ | refine d8 ?_ | refine gs Z Z Z Z Z (fun hg => bt Z Z Z (ta hl) (?_)) fun hg => ?_) <;> (
   refine rg 2 rfl (rn (aT ?_))
   repeat (first | refine an ?_ | refine ac ?_)
   refine rr Z Z ?_
   first | exact eb (wk (by assumption)) | exact eb (wm (by assumption) (by first | assumption | (simpa [ki] using (by assumption)))) | exact eb (wu (by assumption) (by first | assumption | (simpa [ki] using hg))) | exact eb (vY (by assumption) (by assumption)) | exact eb (w8 (by assumption) (by assumption)) | trace_state)))
end
section
attribute [local irreducible] cg aM DP ai aP Decidable.decide Nat.mod bT cA eL dm pR inR box du cP
theorem vB {a b c d : Int} {l : List Pt} (hl : l.length ≤ maxLen) : ai Tryz.prog 53 [.agg [.int .i64 (a), .int .i64 (b), .int .i64 (c), .int .i64 (d), .sl (rows l)]] (· = .bool (dm a b c d l)) := by
 refine cf Tryz.func53 ?_
 refine ag (rb Z Z (rv Z Z (rn (aS (ag (rg 4 rfl (rn (ak ?_))))))))
 refine fB rfl (fun hc => ?_) (fun hc => ?_)
 ·
  first
  | (cases hc; done)
  | (
   refine ag (rg 2 rfl (bt Z Z Z A4 (rv Z Z (rn (aT ?_)))))
   repeat (first | refine an ?_ | refine ac ?_)
   refine rr Z Z ?_
   first | exact eb (wk (by assumption)) | exact eb (wm (by assumption) (by first | assumption | (simpa [ki] using (by assumption)))) | exact eb (wu (by assumption) (by first | assumption | (simpa [ki] using hg))) | exact eb (vY (by assumption) (by assumption)) | exact eb (w8 (by assumption) (by assumption)) | trace_state)
 ·
  first
  | (cases hc; done)
  | (
   refine aK (ag (rg 2 rfl (bt Z Z Z (B7 hl) (rv Z Z (rn (ag (rg 2 rfl ?_)))))))
   (iterate 4 all_goals (first | refine d6 (rv Z Z ?_) | refine d7 ?_ | refine d8 ?_ | refine gs Z Z Z Z Z (fun hg => rv Z Z ?_) fun hg => ?_)) <;> (
   refine rg 2 rfl (rn (aT ?_))
   repeat (first | refine an ?_ | refine ac ?_)
   refine rr Z Z ?_
   first | exact eb (wk (by assumption)) | exact eb (wm (by assumption) (by first | assumption | (simpa [ki] using (by assumption)))) | exact eb (wu (by assumption) (by first | assumption | (simpa [ki] using hg))) | exact eb (vY (by assumption) (by assumption)) | exact eb (w8 (by assumption) (by assumption)) | trace_state))
end
def lT (a b c d : Int) (l : List Pt) : Int × Int × Int × Int := match l with
 | [] => (a, b, c, d)
 | _ :: _ => box l l.length
def Jy (r : Int × Int × Int × Int) : AV := .agg [.int .i64 r.1, .int .i64 r.2.1, .int .i64 r.2.2.1, .int .i64 r.2.2.2]
def BN (m : Bool) (r : Int × Int × Int × Int) : AV := match m with
 | true => .tup [.agg [.int .i64 r.1, .int .i64 r.2.1, .int .i64 r.2.2.1, .int .i64 r.2.2.2], .nilI]
 | false => .tup [.agg [.int .i64 0, .int .i64 0, .int .i64 0, .int .i64 0], .iface 55 (.int .i64 1)]
theorem Am {a b c d : Int} {l : List Pt} {m : Bool} (hl : l.length ≤ maxLen) (h : dm a b c d l = m) : ai Tryz.prog 43 [.agg [.int .i64 a, .int .i64 b, .int .i64 c, .int .i64 d, .sl (rows l)]] (· = .bool m) := h ▸ y3 hl
theorem Dx {a b c d : Int} {l : List Pt} {m : Bool} (hl : l.length ≤ maxLen) (h : dm a b c d l = m) : ai Tryz.prog 53 [.agg [.int .i64 a, .int .i64 b, .int .i64 c, .int .i64 d, .sl (rows l)]] (· = .bool m) := h ▸ vB hl
theorem jV {a b c d : Int} {q : Pt} {t : List Pt} (h : dm a b c d (q :: t) = true) : ki a b c d = true ∧ pc (q :: t) := by
 simp only [dm, Bool.and_eq_true] at h; exact ⟨h.1, (iN _).1 h.2⟩
def JO (l : List Pt) : AV := match l with
 | [] => .tup [.agg [.int .i64 0, .int .i64 0, .int .i64 0, .int .i64 0], .bool false]
 | _ :: _ => .tup [.agg [.int .i64 (box l l.length).1, .int .i64 (box l l.length).2.1, .int .i64 (box l l.length).2.2.1, .int .i64 (box l l.length).2.2.2], .bool true]
theorem IN {a b c d : Int} {l : List Pt} (hl : l.length ≤ maxLen) (h : dm a b c d l = true) : ai Tryz.prog 128 [.sl (rows l)] (· = JO l) := by
 cases l with
 | nil => exact H9 (ps := []) hl
 | cons q t =>
  have hs := (jV h).2
  have := H9 hl
  unfold HP at this
  have ha : d9 (q :: t) = true := List.all_eq_true.2 hs.may
  rw [ha] at this
  have hd : decide (((rows (q :: t)).length : Int) > 0) = true := by simp [rows]
  rw [hd] at this
  exact this
theorem HJ {q : Pt} {t : List Pt} {a b c d : Int} (hl : (q :: t).length ≤ maxLen) (h : dm a b c d (q :: t) = true) : ai Tryz.prog 52 [.sl (rows (q :: t))] (· = JO (q :: t)) := Iw hl (jV h).2
section
attribute [local irreducible] cg aM DP ai aP Decidable.decide Nat.mod bT cA eL dm pR inR box du cP
theorem Eq {a b c d : Int} {l : List Pt} {m : Bool} (hl : l.length ≤ maxLen) (hm : dm a b c d l = m) : ai Tryz.prog 80 [.agg [.int .i64 (a), .int .i64 (b), .int .i64 (c), .int .i64 (d), .sl (rows l)]] (· = BN m (lT a b c d l)) := by
 refine cf Tryz.func80 ?_
 refine aS ?_
 (rcases m with _ | _ <;> rcases l with _ | ⟨q, t⟩) <;> (
 refine aR (rb Z Z (ra Z Z Z (rv Z Z (rn (aS (ag (rv Z Z (bt Z Z Z (Am hl hm) (rv Z Z (rn (ak ?_)))))))))))
 refine fB rfl (fun hc => ?_) (fun hc => ?_)
 ·
  first
  | (cases hc; done)
  | (
   refine ag (rg 2 rfl (rs Z Z Z Z Z Z Z (rv Z Z (rn (aT ?_)))))
   repeat (first | refine an ?_ | refine ac ?_)
   refine rr Z Z ?_
   first | rfl | (cases hc; done) | trace_state)
 ·
  first
  | (cases hc; done)
  | (
   refine aK (aS (ag (rg 2 rfl (bt Z Z Z (IN hl hm) (rg 3 rfl (ra Z Z Z (rs Z Z Z Z Z Z Z (rv Z Z (rn (ag (rv Z Z (rn (ak ?_)))))))))))))
   refine fB rfl (fun hc => ?_) (fun hc => ?_)
   ·
    first
    | (cases hc; done)
    | (
     refine ag (rv Z Z (rs Z Z Z Z Z Z Z (rv Z Z (rn (aT ?_)))))
     repeat (first | refine an ?_ | refine ac ?_)
     refine rr Z Z ?_
     first | rfl | (cases hc; done) | trace_state)
   ·
    first
    | (cases hc; done)
    | (
     refine aK (ag (rg 2 rfl (rs Z Z Z Z Z Z Z (rv Z Z (rn (aT ?_))))))
     repeat (first | refine an ?_ | refine ac ?_)
     refine rr Z Z ?_
     first | rfl | (cases hc; done) | trace_state)))
end
def vm (a b c d : Int) (l : List Pt) (p : Pt) : Bool := dm a b c d l && my p && match l with
 | [] => inR a b c d p.1 p.2
 | _ :: _ => pR l p
theorem vA {a b c d : Int} {l : List Pt} {p : Pt} (h : dm a b c d l = false) : false = vm a b c d l p := by unfold vm; rw [h]; rfl
theorem vu {a b c d : Int} {l : List Pt} {p : Pt} (h : cA p.1 p.2 = false) : false = vm a b c d l p := by unfold vm my; rw [h, Bool.and_false]; rfl
theorem u7 {a b c d : Int} {q : Pt} {t : List Pt} {p : Pt} (h : dm a b c d (q :: t) = true) (hp : cA p.1 p.2 = true) : pR (q :: t) p = vm a b c d (q :: t) p := by unfold vm my; rw [h, hp]; rfl
theorem vz {a b c d : Int} {p : Pt} (h : dm a b c d [] = true) (hp : cA p.1 p.2 = true) : inR a b c d p.1 p.2 = vm a b c d [] p := by unfold vm my; rw [h, hp]; rfl
theorem Gq {a b c d : Int} {l : List Pt} {p : Pt} (hl : l.length ≤ maxLen) (h : dm a b c d l = true) (hp : cA p.1 p.2 = true) (hn : l ≠ []) : ai Tryz.prog 160 [.sl (rows l), .agg [.int .i64 p.1, .int .i64 p.2]] (· = .bool (pR l p)) := by
 cases l with
 | nil => exact absurd rfl hn
 | cons q t => exact B3 hl (jV h).2.may hp
theorem rz {b : Bool} (h : (!b) = true) : b = false := by simpa using h
theorem jl {b : Bool} (h : (!b) = false) : b = true := by simpa using h
section
attribute [local irreducible] cg aM DP ai aP Decidable.decide Nat.mod bT cA eL dm pR inR box du cP
theorem H8 {a b c d : Int} {l : List Pt} {p : Pt} (hl : l.length ≤ maxLen) : ai Tryz.prog 61 [.agg [.int .i64 (a), .int .i64 (b), .int .i64 (c), .int .i64 (d), .sl (rows l)], .agg [.int .i64 (p).1, .int .i64 (p).2]] (· = .bool (vm a b c d l p)) := by
 refine cf Tryz.func61 ?_
 refine aS ?_
 (rcases l with _ | ⟨q, t⟩) <;> (
 refine aR (rb Z Z (rb Z Z (rv Z Z (rn (aS (aB (ag (rv Z Z (bt Z Z Z (y3 hl) (rg 2 rfl ?_))))))))))
 ((first | refine d6 (rv Z Z ?_) | refine d7 ?_ | refine d8 ?_ | refine gs Z Z Z Z Z (fun hg => rv Z Z ?_) fun hg => ?_)) <;> (
 (first | refine d6 (bt Z Z Z jz (?_)) | refine d7 ?_ | refine d8 ?_ | refine gs Z Z Z Z Z (fun hg => bt Z Z Z jz (?_)) fun hg => ?_) <;> (
 ((first | refine d6 (rv Z Z ?_) | refine d7 ?_ | refine d8 ?_ | refine gs Z Z Z Z Z (fun hg => rv Z Z ?_) fun hg => ?_)) <;> (
 refine rg 2 rfl (rn (ak ?_))
 refine fB rfl (fun hc => ?_) (fun hc => ?_)
 ·
  first
  | (cases hc; done)
  | (
   refine ag (rv Z Z (rn (aT ?_)))
   repeat (first | refine an ?_ | refine ac ?_)
   refine rr Z Z ?_
   first | exact eb (vA (rz (by assumption))) | exact eb (vu (rz (by assumption))) | exact eb (u7 (jl (by assumption)) (jl (by assumption))) | exact eb (vz (jl (by assumption)) (jl (by assumption))) | (exfalso; simp [rows] at hc; done) | (exfalso; simp [rows] at hc; omega) | trace_state)
 ·
  first
  | (cases hc; done)
  | (
   refine ag (rg 5 rfl (rn (ak ?_)))
   refine fB rfl (fun hc => ?_) (fun hc => ?_)
   ·
    first
    | (cases hc; done)
    | (
     refine ag (rg 3 rfl (bt Z Z Z (Jt hl) (rv Z Z (rn (aT ?_)))))
     repeat (first | refine an ?_ | refine ac ?_)
     refine rr Z Z ?_
     first | exact eb (vA (rz (by assumption))) | exact eb (vu (rz (by assumption))) | exact eb (u7 (jl (by assumption)) (jl (by assumption))) | exact eb (vz (jl (by assumption)) (jl (by assumption))) | (exfalso; simp [rows] at hc; done) | (exfalso; simp [rows] at hc; omega) | trace_state)
   ·
    first
    | (cases hc; done)
    | (
     refine aK (ah (ag (rg 3 rfl (bt Z Z Z DB (rv Z Z (rn (aT ?_)))))))
     repeat (first | refine an ?_ | refine ac ?_)
     refine rr Z Z ?_
     first | exact eb (vA (rz (by assumption))) | exact eb (vu (rz (by assumption))) | exact eb (u7 (jl (by assumption)) (jl (by assumption))) | exact eb (vz (jl (by assumption)) (jl (by assumption))) | (exfalso; simp [rows] at hc; done) | (exfalso; simp [rows] at hc; omega) | trace_state))))))
end
section
attribute [local irreducible] cg aM DP ai aP Decidable.decide Nat.mod bT cA eL dm pR inR box du cP
theorem Gp {a b c d : Int} {l : List Pt} {p : Pt} (hl : l.length ≤ maxLen) : ai Tryz.prog 105 [.agg [.int .i64 (a), .int .i64 (b), .int .i64 (c), .int .i64 (d), .sl (rows l)], .agg [.int .i64 (p).1, .int .i64 (p).2]] (· = .bool (vm a b c d l p)) := by
 refine cf Tryz.func105 ?_
 refine aS ?_
 (rcases l with _ | ⟨q, t⟩) <;> (
 refine aR (rb Z Z (rb Z Z (rv Z Z (rn (ag (rv Z Z (bt Z Z Z (vB hl) (rv Z Z (rn (ag (rv Z Z (bt Z Z Z kR (rv Z Z (rn (aS (ag (rg 3 rfl ?_)))))))))))))))))
 (iterate 2 all_goals (first | refine d6 (rv Z Z ?_) | refine d7 ?_ | refine d8 ?_ | refine gs Z Z Z Z Z (fun hg => rv Z Z ?_) fun hg => ?_)) <;> (
 refine rv Z Z (rn (ak ?_))
 refine fB rfl (fun hc => ?_) (fun hc => ?_)
 ·
  first
  | (cases hc; done)
  | (
   refine ag (rv Z Z (rn (aT ?_)))
   repeat (first | refine an ?_ | refine ac ?_)
   refine rr Z Z ?_
   first | exact eb (vA (rz (by assumption))) | exact eb (vu (rz (by assumption))) | exact eb (u7 (jl (by assumption)) (jl (by assumption))) | exact eb (vz (jl (by assumption)) (jl (by assumption))) | (exfalso; simp [rows] at hc; done) | (exfalso; simp [rows] at hc; omega) | trace_state)
 ·
  first
  | (cases hc; done)
  | (
   refine aK (aS (ag (rg 4 rfl (rn (ak ?_)))))
   refine fB rfl (fun hc => ?_) (fun hc => ?_)
   ·
    first
    | (cases hc; done)
    | (
     refine ag (rg 3 rfl (bt Z Z Z yg (rv Z Z (rn (aT ?_)))))
     repeat (first | refine an ?_ | refine ac ?_)
     refine rr Z Z ?_
     first | exact eb (vA (rz (by assumption))) | exact eb (vu (rz (by assumption))) | exact eb (u7 (jl (by assumption)) (jl (by assumption))) | exact eb (vz (jl (by assumption)) (jl (by assumption))) | (exfalso; simp [rows] at hc; done) | (exfalso; simp [rows] at hc; omega) | trace_state)
   ·
    first
    | (cases hc; done)
    | (
     refine aK (ag (rg 3 rfl (bt Z Z Z (Gq hl (jl (by assumption)) (jl (by assumption)) (by first | (simp [rows] at hc; done) | simp)) (rv Z Z (rn (aT ?_))))))
     repeat (first | refine an ?_ | refine ac ?_)
     refine rr Z Z ?_
     first | exact eb (vA (rz (by assumption))) | exact eb (vu (rz (by assumption))) | exact eb (u7 (jl (by assumption)) (jl (by assumption))) | exact eb (vz (jl (by assumption)) (jl (by assumption))) | (exfalso; simp [rows] at hc; done) | (exfalso; simp [rows] at hc; omega) | trace_state))))
end
section
attribute [local irreducible] cg aM DP ai aP Decidable.decide Nat.mod bT cA eL dm pR inR box du cP
theorem Bb {a b c d : Int} {l : List Pt} (hl : l.length ≤ maxLen) (hm : dm a b c d l = true) : ai Tryz.prog 14 [.agg [.int .i64 (a), .int .i64 (b), .int .i64 (c), .int .i64 (d), .sl (rows l)]] (· = Jy (lT a b c d l)) := by
 refine cf Tryz.func14 ?_
 refine aS ?_
 (rcases l with _ | ⟨q, t⟩) <;> (
 refine aR (rb Z Z (ra Z Z Z (rn (aS (ag (rg 4 rfl (rn (ak ?_))))))))
 refine fB rfl (fun hc => ?_) (fun hc => ?_)
 ·
  first
  | (cases hc; done)
  | (
   refine ag (rg 2 rfl (rs Z Z Z Z Z Z Z (rn (aT ?_))))
   repeat (first | refine an ?_ | refine ac ?_)
   refine rr Z Z ?_
   first | rfl | (exfalso; simp [rows] at hc; done) | (exfalso; simp [rows] at hc; omega) | trace_state)
 ·
  first
  | (cases hc; done)
  | (
   refine aK (ag (rg 2 rfl (bt Z Z Z (by first | exact HJ hl hm | exact Ge hl) (rg 3 rfl (ra Z Z Z (rs Z Z Z Z Z Z Z (rv Z Z (rn (ag (rv Z Z (rs Z Z Z Z Z Z Z (rn (aT ?_)))))))))))))
   repeat (first | refine an ?_ | refine ac ?_)
   refine rr Z Z ?_
   first | rfl | (exfalso; simp [rows] at hc; done) | (exfalso; simp [rows] at hc; omega) | trace_state))
end
theorem IK {a b p q d : Pt} (ha : my a = true) (hb : my b = true) (hp : my p = true) (hq : my q = true) (ha' : my (mv d a) = true) (hb' : my (mv d b) = true) (hp' : my (mv d p) = true) (hq' : my (mv d q) = true) : cr (mv d a) (mv d b) (mv d p) (mv d q) = cr a b p q := by
 have o1 := vt ha hb hp ha' hb' hp'; have o2 := vt ha hb hq ha' hb' hq'; have o3 := vt hp hq ha hp' hq' ha'; have o4 := vt hp hq hb hp' hq' hb'
 have t1 := xB ha hb hp ha' hb' hp'; have t2 := xB ha hb hq ha' hb' hq'; have t3 := xB hp hq ha hp' hq' ha'; have t4 := xB hp hq hb hp' hq' hb'
 unfold on at o1 o2 o3 o4; unfold tn at t1 t2 t3 t4
 unfold cr fO jC
 rw [o1, o2, o3, o4, t1, t2, t3, t4]
theorem Df {d p q : Pt} (h : mv d p = mv d q) : p = q := by
 have h1 := congrArg Prod.fst h; have h2 := congrArg Prod.snd h
 simp only [mv] at h1 h2
 exact Prod.ext (by omega) (by omega)
theorem xk (d : Pt) : ∀ {l : List Pt}, l.Nodup → (l.map (mv d)).Nodup
 | [], _ => List.nodup_nil
 | a :: l, h => by
  rw [List.nodup_cons] at h
  rw [List.map_cons, List.nodup_cons]
  refine ⟨fun hm => ?_, xk d h.2⟩
  obtain ⟨q, hq, he⟩ := List.mem_map.1 hm
  exact h.1 (Df he ▸ hq)
theorem pc.mv {l : List Pt} (h : pc l) {d : Pt} (ha : l.all (sq d) = true) : pc (l.map (Go.Proofs.YtbkomicjhfldmaaGreatDoor.mv d)) := by
 have hm : ∀ q ∈ l, my (Go.Proofs.YtbkomicjhfldmaaGreatDoor.mv d q) = true := fun q hq => (Do (List.all_eq_true.1 ha q hq)).2
 have hE : ∀ e ∈ dZ (l.map (Go.Proofs.YtbkomicjhfldmaaGreatDoor.mv d)), ∃ e' ∈ dZ l, e = (Go.Proofs.YtbkomicjhfldmaaGreatDoor.mv d e'.1, Go.Proofs.YtbkomicjhfldmaaGreatDoor.mv d e'.2) := fun e he => by
  rw [BC] at he
  obtain ⟨e', h1, h2⟩ := List.mem_map.1 he
  exact ⟨e', h1, h2.symm⟩
 refine ⟨by rw [List.length_map]; exact h.n3, by rw [List.length_map]; exact h.n64, fun p hp => ?_, xk d h.nd, fun e he f hf hef => ?_, fun e he f hf h1 h2 h3 h4 => ?_⟩
 · obtain ⟨q, hq, rfl⟩ := List.mem_map.1 hp; exact hm q hq
 ·
  obtain ⟨e', he', rfl⟩ := hE e he
  obtain ⟨f', hf', rfl⟩ := hE f hf
  have a1 := pz he'; have a2 := pz hf'
  have := h.nb e' he' f' hf' (Df hef)
  simp only
  rw [vt (h.may _ a1.1) (h.may _ a1.2) (h.may _ a2.2) (hm _ a1.1) (hm _ a1.2) (hm _ a2.2), vt (h.may _ a1.2) (h.may _ a2.2) (h.may _ a1.1) (hm _ a1.2) (hm _ a2.2) (hm _ a1.1)]
  exact this
 ·
  obtain ⟨e', he', rfl⟩ := hE e he
  obtain ⟨f', hf', rfl⟩ := hE f hf
  have a1 := pz he'; have a2 := pz hf'
  simp only
  rw [IK (h.may _ a1.1) (h.may _ a1.2) (h.may _ a2.1) (h.may _ a2.2) (hm _ a1.1) (hm _ a1.2) (hm _ a2.1) (hm _ a2.2)]
  exact h.cx e' he' f' hf' (fun e => h1 (congrArg (Go.Proofs.YtbkomicjhfldmaaGreatDoor.mv d) e)) (fun e => h2 (congrArg (Go.Proofs.YtbkomicjhfldmaaGreatDoor.mv d) e)) (fun e => h3 (congrArg (Go.Proofs.YtbkomicjhfldmaaGreatDoor.mv d) e)) (fun e => h4 (congrArg (Go.Proofs.YtbkomicjhfldmaaGreatDoor.mv d) e))
def F6 (a b c d : Int) (l : List Pt) (v : Pt) : Bool := match l with
 | [] => du a b v.1 v.2 && du c d v.1 v.2
 | _ :: _ => l.all (sq v)
def JS (a b c d : Int) (l : List Pt) (v : Pt) : AV := match l with
 | [] => .agg [.int .i64 (W (a + v.1)), .int .i64 (W (b + v.2)), .int .i64 (W (c + v.1)), .int .i64 (W (d + v.2)), .sl []]
 | _ :: _ => .agg [.int .i64 0, .int .i64 0, .int .i64 0, .int .i64 0, .sl (rows (l.map (mv v)))]
def JK (q : Bool) (a b c d : Int) (v : Pt) : AV := match q with
 | true => .tup [.agg [.int .i64 (W (a + v.1)), .int .i64 (W (b + v.2)), .int .i64 (W (c + v.1)), .int .i64 (W (d + v.2))], .nilI]
 | false => .tup [.agg [.int .i64 0, .int .i64 0, .int .i64 0, .int .i64 0], .iface 55 (.int .i64 11)]
section
attribute [local irreducible] cg aM DP ai aP Decidable.decide Nat.mod bT cA eL dm pR inR box du cP
theorem EA {a b c d : Int} {v : Pt} {p q : Bool} (hp : du a b v.1 v.2 = p) (hq : du c d v.1 v.2 = q) : ai Tryz.prog 87 [.agg [.int .i64 a, .int .i64 b, .int .i64 c, .int .i64 d], .agg [.int .i64 (v).1, .int .i64 (v).2]] (· = JK (p && q) a b c d v) := by
 refine cf Tryz.func87 ?_
 refine aS ?_
 (rcases p with _ | _ <;> rcases q with _ | _) <;> (
 refine aR (rb Z Z (rb Z Z (ra Z Z Z (rv Z Z (rn (ag (rg 6 rfl (bt Z Z Z (zN hp) (rg 3 rfl (ra Z Z Z (rs Z Z Z Z Z Z Z (rv Z Z (rn (aS (ag (rg 2 rfl (rn (ak ?_))))))))))))))))))
 refine fB rfl (fun hc => ?_) (fun hc => ?_)
 ·
  first
  | (cases hc; done)
  | (
   refine ag (rg 2 rfl (rs Z Z Z Z Z Z Z (rv Z Z (rn (aT ?_)))))
   repeat (first | refine an ?_ | refine ac ?_)
   refine rr Z Z ?_
   first | rfl | (cases hc; done) | trace_state)
 ·
  first
  | (cases hc; done)
  | (
   refine aK (ag (rg 6 rfl (bt Z Z Z (zN hq) (rg 3 rfl (ra Z Z Z (rs Z Z Z Z Z Z Z (rv Z Z (rn (aS (ag (rg 2 rfl (rn (ak ?_)))))))))))))
   refine fB rfl (fun hc => ?_) (fun hc => ?_)
   ·
    first
    | (cases hc; done)
    | (
     refine ag (rg 2 rfl (rs Z Z Z Z Z Z Z (rv Z Z (rn (aT ?_)))))
     repeat (first | refine an ?_ | refine ac ?_)
     refine rr Z Z ?_
     first | rfl | (cases hc; done) | trace_state)
   ·
    first
    | (cases hc; done)
    | (
     refine aK (ag (rg 9 rfl (rs Z Z Z Z Z Z Z (rv Z Z (rn (aT ?_))))))
     repeat (first | refine an ?_ | refine ac ?_)
     refine rr Z Z ?_
     first | rfl | (cases hc; done) | trace_state)))
end
def DF (m ok : Bool) (a b c d : Int) (l : List Pt) (v : Pt) : AV := match m, ok with
 | true, true => .tup [JS a b c d l v, .nilI]
 | true, false => .tup [.agg [.int .i64 0, .int .i64 0, .int .i64 0, .int .i64 0, .sl []], .iface 55 (.int .i64 11)]
 | false, _ => .tup [.agg [.int .i64 0, .int .i64 0, .int .i64 0, .int .i64 0, .sl []], .iface 55 (.int .i64 1)]
theorem Hh (h : decide (((rows []).length : Int) > 0) = true) : False := by simp [rows] at h
theorem Hw {q : Pt} {t : List Pt} (h : decide (((rows (q :: t)).length : Int) > 0) = false) : False := by simp [rows] at h
theorem GB {a b c d : Int} {v : Pt} {ok : Bool} (h : F6 a b c d [] v = ok) : ai Tryz.prog 87 [.agg [.int .i64 a, .int .i64 b, .int .i64 c, .int .i64 d], .agg [.int .i64 v.1, .int .i64 v.2]] (· = JK ok a b c d v) := by
 subst h; exact EA Z Z
theorem IE {a b c d : Int} {q : Pt} {t : List Pt} {v : Pt} {ok : Bool} (hl : (q :: t).length ≤ maxLen) (hm : dm a b c d (q :: t) = true) (h : F6 a b c d (q :: t) v = ok) : ai Tryz.prog 86 [.sl (rows (q :: t)), .agg [.int .i64 v.1, .int .i64 v.2]] (· = Gf true ok (q :: t) v) :=
 E4 hl ((iN _).2 (jV hm).2) h
section
attribute [local irreducible] cg aM DP ai aP Decidable.decide Nat.mod bT cA eL dm pR inR box du cP
theorem Fn {a b c d : Int} {l : List Pt} {v : Pt} {m ok : Bool} (hl : l.length ≤ maxLen) (hm : dm a b c d l = m) (ho : F6 a b c d l v = ok) : ai Tryz.prog 49 [.agg [.int .i64 (a), .int .i64 (b), .int .i64 (c), .int .i64 (d), .sl (rows l)], .agg [.int .i64 (v).1, .int .i64 (v).2]] (· = DF m ok a b c d l v) := by
 refine cf Tryz.func49 ?_
 refine aS ?_
 (rcases m with _ | _ <;> rcases ok with _ | _ <;> rcases l with _ | ⟨q, t⟩) <;> (
 refine aR (rb Z Z (rb Z Z (ra Z Z Z (rv Z Z (rn (aS (ag (rv Z Z (bt Z Z Z (Am hl hm) (rv Z Z (rn (ak ?_))))))))))))
 refine fB rfl (fun hc => ?_) (fun hc => ?_)
 ·
  first
  | (cases hc; done)
  | (
   refine ag (rg 2 rfl (rs Z Z Z Z Z Z Z (rv Z Z (rn (aT ?_)))))
   repeat (first | refine an ?_ | refine ac ?_)
   refine rr Z Z ?_
   first | rfl | (cases hc; done) | (exfalso; simp [rows] at hc; done) | (exfalso; simp [rows] at hc; omega) | trace_state)
 ·
  first
  | (cases hc; done)
  | (
   refine aK (aS (ag (rg 4 rfl (rn (ak ?_)))))
   refine fB rfl (fun hc => ?_) (fun hc => ?_)
   ·
    first
    | (cases hc; done)
    | (
     refine aS ?_
     (first | exact (Hh (by assumption)).elim | skip) <;> (
     refine aR (rg 3 rfl (bt Z Z Z (IE hl hm ho) (rg 5 rfl (rn (ag (rg 3 rfl (rs Z Z Z Z Z Z Z (rv Z Z (rn (aT ?_))))))))))
     repeat (first | refine an ?_ | refine ac ?_)
     refine rr Z Z ?_
     first | rfl | (cases hc; done) | (exfalso; simp [rows] at hc; done) | (exfalso; simp [rows] at hc; omega) | trace_state))
   ·
    first
    | (cases hc; done)
    | (
     refine aK (aS ?_)
     (first | exact (Hw (by assumption)).elim | skip) <;> (
     refine aR (rg 3 rfl (bt Z Z Z (GB ho) (rg 3 rfl (ra Z Z Z (rs Z Z Z Z Z Z Z (rv Z Z (rn (ag (rg 3 rfl (rs Z Z Z Z Z Z Z (rv Z Z (rn (aT ?_)))))))))))))
     repeat (first | refine an ?_ | refine ac ?_)
     refine rr Z Z ?_
     first | rfl | (cases hc; done) | (exfalso; simp [rows] at hc; done) | (exfalso; simp [rows] at hc; omega) | trace_state))))
end
section
attribute [local irreducible] cg aM DP ai aP Decidable.decide cA
theorem GI {p v : Pt} : ai Tryz.prog 97 [.agg [.int .i64 (p).1, .int .i64 (p).2], .agg [.int .i64 (v).1, .int .i64 (v).2]] (· = (.tup [.agg [.int .i64 (W (p.1 + v.1)), .int .i64 (W (p.2 + v.2))], .bool (du p.1 p.2 v.1 v.2)])) := by
 refine cf Tryz.func97 ?_
 refine ag (rb Z Z (rb Z Z (ra Z Z Z (rv Z Z (rn (ag (rv Z Z (bt Z Z Z kR (rv Z Z (rn (ag (rv Z Z (bt Z Z Z kR (rv Z Z (rn (ag (rg 11 rfl (ra Z Z Z (rs Z Z Z Z Z Z Z (rn (ag (rv Z Z (bt Z Z Z kR (rv Z Z (rn (ag (rg 3 rfl ?_)))))))))))))))))))))))))))
 ((first | refine d6 (rv Z Z ?_) | refine d7 ?_ | refine d8 ?_ | refine gs Z Z Z Z Z (fun hg => rv Z Z ?_) fun hg => ?_)) <;> (
 refine rg 2 rfl ?_
 ((first | refine d6 (rv Z Z ?_) | refine d7 ?_ | refine d8 ?_ | refine gs Z Z Z Z Z (fun hg => rv Z Z ?_) fun hg => ?_)) <;> (
 refine rv Z Z (rs Z Z Z Z Z Z Z (rv Z Z (rn (aT ?_))))
 repeat (first | refine an ?_ | refine ac ?_)
 refine rr Z Z ?_
 first | (unfold du; simp [*]; done) | (unfold du; simp_all; done) | trace_state))
end
def cD (s : Int) : Bool := decide (s ≥ 24) && decide (s ≤ 31)
def jc (s : Int) : Int := if cD s then 2 ^ (31 - s).toNat + 1 else 0
theorem GP {s : Int} (h : (!cD s) = false) : s = 24 ∨ s = 25 ∨ s = 26 ∨ s = 27 ∨ s = 28 ∨ s = 29 ∨ s = 30 ∨ s = 31 := by
 simp [cD] at h; omega
theorem xw {s : Int} (h : s = 24 ∨ s = 25 ∨ s = 26 ∨ s = 27 ∨ s = 28 ∨ s = 29 ∨ s = 30 ∨ s = 31) : AV.int .i64 (IntKind.i64.wrap (Int.fdiv 2147483648 (2 ^ min (Int.toNat s) IntKind.i64.bits) + 1)) = AV.int .i64 (jc s) := by
 rcases h with rfl | rfl | rfl | rfl | rfl | rfl | rfl | rfl <;> exact congrArg (AV.int .i64) (by decide)
theorem A0 {s : Int} (h : (!cD s) = true) : AV.int .i64 0 = AV.int .i64 (jc s) := by
 have hm : cD s = false := by simpa using h
 simp [jc, hm]
section
attribute [local irreducible] cg aM DP ai aP Decidable.decide
theorem Cw {s : Int} : ai Tryz.prog 74 [.int .i64 s] (· = .bool (cD s)) := by
 refine cf Tryz.func74 ?_
 refine ag (rv Z Z (rn (ag (rg 3 rfl ?_))))
 (iterate 2 all_goals (first | refine d6 (rv Z Z ?_) | refine d7 ?_ | refine d8 ?_ | refine gs Z Z Z Z Z (fun hg => rv Z Z ?_) fun hg => ?_)) <;> (
 refine rg 2 rfl (rn (aT ?_))
 repeat (first | refine an ?_ | refine ac ?_)
 refine rr Z Z ?_
 first | rfl | (simp [*]; done) | (simp [cD]; done) | (simp [cD, *]; done) | (simp_all [cD]; done))
end
section
attribute [local irreducible] cg aM DP ai aP Decidable.decide
theorem C3 {s : Int} : ai Tryz.prog 42 [.int .i64 s] (· = .int .i64 (jc s)) := by
 refine cf Tryz.func42 ?_
 refine ag (rv Z Z (rn (aS (ag (rv Z Z (bt Z Z Z (Cw) (rv Z Z (rn (ak ?_)))))))))
 refine fB rfl (fun hc => ?_) (fun hc => ?_)
 ·
  first
  | (cases hc; done)
  | (
   refine ag (rv Z Z (rn (aT ?_)))
   repeat (first | refine an ?_ | refine ac ?_)
   refine rr Z Z ?_
   first | exact A0 hc | exact xw (by simp))
 ·
  first
  | (cases hc; done)
  | (
   refine aK (aS ?_)
   (rcases GP hc with rfl | rfl | rfl | rfl | rfl | rfl | rfl | rfl) <;> (
   refine aR (rg 4 rfl (rn (aT ?_)))
   repeat (first | refine an ?_ | refine ac ?_)
   refine rr Z Z ?_
   first | exact A0 hc | exact xw (by simp)))
end
def jN (s x : Int) : Int := (W (x + 1073741824)).fdiv (2 ^ min s.toNat 64)
def CF (p q : Bool) (u v : Int) : AV := match p, q with
 | false, _ => .tup [.int .i64 0, .int .i64 0, .iface 55 (.int .i64 1)]
 | true, false => .tup [.int .i64 0, .int .i64 0, .iface 55 (.int .i64 11)]
 | true, true => .tup [.int .i64 u, .int .i64 v, .nilI]
theorem AG {s : Int} (h : (!cD s) = false) : ¬ s < 0 := by simp [cD] at h; omega
def ef (s n : Int) : Bool := decide (n < 0) || decide (n ≥ jc s)
def jR (s n : Int) : Int := W (W (n * 2 ^ min s.toNat 64) - 1073741824)
def dg (s n : Int) : Int := mn (W (jR s (W (n + 1)) - 1)) 1073741824
def FA (p : Bool) (s c r : Int) : AV := match p with
 | false => .tup [.agg [.int .i64 0, .int .i64 0, .int .i64 0, .int .i64 0], .iface 55 (.int .i64 1)]
 | true => .tup [.agg [.int .i64 (jR s c), .int .i64 (jR s r), .int .i64 (dg s c), .int .i64 (dg s r)], .nilI]
def uz (s c r : Int) : Bool := !ef s c && !ef s r
theorem E9 {s n : Int} (h : cD s = false) : ef s n = true := by
 simp [ef, jc, h]; omega
theorem zP {s n : Int} (h : ef s n = false) : cD s = true := by
 cases hm : cD s with
 | true => rfl
 | false => rw [E9 hm] at h; cases h
theorem GO {s n : Int} (h : ef s n = false) : ¬ s < 0 := AG (by rw [zP h]; rfl)
theorem CU {s u v : Int} {q : Bool} (h : (!cD s) = true) : AV.tup [.int .i64 0, .int .i64 0, .iface 55 (.int .i64 1)] = CF (cD s) q u v := by
 have e : cD s = false := by simpa using h
 rw [e]; rfl
theorem En {s u v : Int} {q : Bool} (h : (!cD s) = false) (h' : (!q) = true) : AV.tup [.int .i64 0, .int .i64 0, .iface 55 (.int .i64 11)] = CF (cD s) q u v := by
 have e : cD s = true := by simpa using h
 have e' : q = false := by simpa using h'
 rw [e, e']; rfl
theorem El {s u v : Int} {q : Bool} (h : (!cD s) = false) (h' : (!q) = false) : AV.tup [.int .i64 u, .int .i64 v, .nilI] = CF (cD s) q u v := by
 have e : cD s = true := by simpa using h
 have e' : q = true := by simpa using h'
 rw [e, e']; rfl
theorem Bf {s c r : Int} (h : ef s c = true ∨ ef s r = true) : AV.tup [.agg [.int .i64 0, .int .i64 0, .int .i64 0, .int .i64 0], .iface 55 (.int .i64 1)] = FA (uz s c r) s c r := by
 have e : uz s c r = false := by rcases h with h | h <;> simp [uz, h]
 rw [e]; rfl
theorem F9 {s c r : Int} (h : ef s c = false) (h' : ef s r = false) : AV.tup [.agg [.int .i64 (jR s c), .int .i64 (jR s r), .int .i64 (dg s c), .int .i64 (dg s r)], .nilI] = FA (uz s c r) s c r := by
 have e : uz s c r = true := by simp [uz, h, h']
 rw [e]; rfl
section
attribute [local irreducible] cg aM DP ai aP Decidable.decide
theorem GS {s x y : Int} : ai Tryz.prog 184 [.int .i64 s, .agg [.int .i64 x, .int .i64 y]] (· = CF (cD s) (cA x y) (jN s x) (jN s y)) := by
 refine cf Tryz.func184 ?_
 refine ag (rb Z Z (rg 3 rfl (rn (aS (aB (ag (rv Z Z (bt Z Z Z Cw (rg 2 rfl (rn (ak ?_)))))))))))
 refine fB rfl (fun hc => ?_) (fun hc => ?_)
 ·
  first
  | (cases hc; done)
  | (
   refine ag (rg 4 rfl (rn (aT ?_)))
   repeat (first | refine an ?_ | refine ac ?_)
   refine rr Z Z ?_
   first | exact CU hc | exact En (by assumption) hc | exact El (by assumption) hc)
 ·
  first
  | (cases hc; done)
  | (
   refine ag (rv Z Z (bt Z Z Z jz (rg 2 rfl (rn (ak ?_)))))
   refine fB rfl (fun hc => ?_) (fun hc => ?_)
   ·
    first
    | (cases hc; done)
    | (
     refine ag (rg 4 rfl (rn (aT ?_)))
     repeat (first | refine an ?_ | refine ac ?_)
     refine rr Z Z ?_
     first | exact CU hc | exact En (by assumption) hc | exact El (by assumption) hc)
   ·
    first
    | (cases hc; done)
    | (
     refine aK (ah (aS ?_))
     (have h0 := AG (by assumption : (!cD s) = false)) <;> (
     refine mw 11 Tryz.mix (dv Z Z (fun _ => rfl) (dv Z Z (fun _ => rfl) (dv Z Z (fun _ => rfl) (dv Z Z (fun _ => rfl) (dv Z Z (fun _ => (qy _).trans (AD Z Z h0)) (dv Z Z (fun _ => rfl) (dv Z Z (fun _ => rfl) (dv Z Z (fun _ => rfl) (dv Z Z (fun _ => rfl) (dv Z Z (fun _ => (qy _).trans (AD Z Z h0)) (dv Z Z (fun _ => rfl) (dn (rg 2 rfl (rn (aT ?_)))))))))))))))
     repeat (first | refine an ?_ | refine ac ?_)
     refine rr Z Z ?_
     first | exact CU hc | exact En (by assumption) hc | exact El (by assumption) hc)))
end
section
attribute [local irreducible] cg aM DP ai aP Decidable.decide
theorem zd {s n : Int} : ai Tryz.prog 185 [.int .i64 n, .rd [.int .i64 s]] (· = .bool (ef s n)) := by
 refine cf Tryz.func185 ?_
 refine ag (rv Z Z (rn (ag (rg 3 rfl ?_))))
 (iterate 2 all_goals (first | refine d6 (rv Z Z ?_) | refine d7 ?_ | refine d8 ?_ | refine gs Z Z Z Z Z (fun hg => rv Z Z ?_) fun hg => ?_)) <;> (
 (first | refine d6 (bt Z Z Z C3 (?_)) | refine d7 ?_ | refine d8 ?_ | refine gs Z Z Z Z Z (fun hg => bt Z Z Z C3 (?_)) fun hg => ?_) <;> (
 ((first | refine d6 (rv Z Z ?_) | refine d7 ?_ | refine d8 ?_ | refine gs Z Z Z Z Z (fun hg => rv Z Z ?_) fun hg => ?_)) <;> (
 refine rg 2 rfl (rn (aT ?_))
 repeat (first | refine an ?_ | refine ac ?_)
 refine rr Z Z ?_
 first | rfl | (simp [*]; done) | (simp [ef]; done) | (simp [ef, *]; done) | (simp_all [ef]; done))))
end
section
attribute [local irreducible] cg aM DP ai aP Decidable.decide
theorem Ah {s n : Int} (h0 : ¬ s < 0) : ai Tryz.prog 186 [.int .i64 n, .rd [.int .i64 s]] (· = .int .i64 (jR s n)) := by
 refine cf Tryz.func186 ?_
 refine ag (rv Z Z (rn (ag (rg 2 rfl (nU rfl (EX Z Z h0) (rg 2 rfl (rn (aT ?_))))))))
 repeat (first | refine an ?_ | refine ac ?_)
 refine rr Z Z ?_
 rfl
end
section
attribute [local irreducible] cg aM DP ai aP Decidable.decide
theorem AU {s n : Int} (h0 : ¬ s < 0) : ai Tryz.prog 187 [.int .i64 n, .rd [.fn 186 [.rd [.int .i64 s]]]] (· = .int .i64 (dg s n)) := by
 refine cf Tryz.func187 ?_
 refine ag (rv Z Z (rn (ag (rg 3 rfl (rf Z Z (Ah h0) rfl (rg 3 rfl (rn (aT ?_))))))))
 repeat (first | refine an ?_ | refine ac ?_)
 refine rr Z Z ?_
 rfl
end
section
attribute [local irreducible] cg aM DP ai aP Decidable.decide
theorem Ik {s c r : Int} : ai Tryz.prog 130 [.int .i64 s, .int .i64 c, .int .i64 r] (· = FA (uz s c r) s c r) := by
 refine cf Tryz.func130 ?_
 refine ag (rb Z Z (ra Z Z Z (rv Z Z (rn (ag (rg 2 rfl (rn (aS (ag (rg 2 rfl (rf Z Z zd rfl (rv Z Z ?_))))))))))))
 (iterate 2 all_goals (first | refine d6 (rv Z Z ?_) | refine d7 ?_ | refine d8 ?_ | refine gs Z Z Z Z Z (fun hg => rv Z Z ?_) fun hg => ?_)) <;> (
 (first | refine d6 (rf Z Z zd rfl (?_)) | refine d7 ?_ | refine d8 ?_ | refine gs Z Z Z Z Z (fun hg => rf Z Z zd rfl (?_)) fun hg => ?_) <;> (
 refine rv Z Z (rn (ak ?_))
 refine fB rfl (fun hc => ?_) (fun hc => ?_)
 ·
  first
  | (cases hc; done)
  | (
   refine ag (rg 2 rfl (rs Z Z Z Z Z Z Z (rv Z Z (rn (aT ?_)))))
   repeat (first | refine an ?_ | refine ac ?_)
   refine rr Z Z ?_
   first | exact Bf (.inl hg) | exact Bf (.inr hc) | exact F9 hg hc)
 ·
  first
  | (cases hc; done)
  | (
   refine aK (aS ?_)
   (have h0 := GO hc) <;> (
   refine aR (rv Z Z (ra Z Z Z (rs Z Z Z Z Z Z Z (rn (ag (rg 2 rfl (rn (aS (mw 13 Tryz.mix (dv Z Z (fun _ => rfl) (dv Z Z (fun _ => rfl) (df Z Z Z (fun _ => Ah h0) rfl (dv Z Z (fun _ => rfl) (dv Z Z (fun _ => rfl) (df Z Z Z (fun _ => Ah h0) rfl (dv Z Z (fun _ => rfl) (dv Z Z (fun _ => rfl) (df Z Z Z (fun _ => AU h0) rfl (dv Z Z (fun _ => rfl) (dv Z Z (fun _ => rfl) (df Z Z Z (fun _ => AU h0) rfl (dv Z Z (fun _ => rfl) (dn (rs Z Z Z Z Z Z Z (rv Z Z (rn (aT ?_)))))))))))))))))))))))))))
   repeat (first | refine an ?_ | refine ac ?_)
   refine rr Z Z ?_
   first | exact Bf (.inl hg) | exact Bf (.inr hc) | exact F9 hg hc))))
end
def dW (k : Nat) : Int := ((2 ^ k : Nat) : Int)
theorem Dp {i : Nat} (h : i < 40) : IntKind.wrap .i64 (2 * dW i) = dW (i + 1) := by
 have hp : 2 ^ i < 2 ^ 40 := Nat.pow_lt_pow_right (by omega) h
 have := xO (m := 2 ^ (i + 1)) (by rw [Nat.pow_succ]; omega)
 unfold dW
 rw [← this]
 congr 1
 rw [Nat.pow_succ]; push_cast; omega
theorem Bt {i k : Nat} (h : decide ((i : Int) < (k : Int)) = true) : i < k := by simp at h; omega
theorem B5 {i k : Nat} (h : decide ((i : Int) < (k : Int)) = false) (hi : i ≤ k) : i = k := by simp at h; omega
section
attribute [local irreducible] cg aM DP ai aP Decidable.decide
theorem yI {k : Nat} (hk : k ≤ 40) : ai Tryz.prog 207 [.int .i64 ((k : Nat) : Int)] (· = .int .i64 (dW k)) := by
 refine cf Tryz.func207 ?_
 refine ag (rv Z Z (rn (ag (rv Z Z (rn (aS (ag (rv Z Z (rn (aB ?_))))))))))
 refine eQ (ι := Nat) (fun i => ⟨[(0, .int .i64 ((k : Nat) : Int)), (2, .int .i64 0), (3, .int .i64 (dW i)), (4, .int .i64 ((i : Nat) : Int))], [], [], 0⟩) (fun i => i ≤ k) (fun i => k - i) (0) (by omega) ?_ (fun _ => Nat.zero_le _) (fun i hi => ?_)
 · (refine ⟨Nat.le_of_ble_eq_true rfl, ?_, ?_, ?_⟩ <;> repeat' (first | exact trivial | rfl | refine ⟨⟨?_, rfl⟩, ?_⟩ | refine ⟨⟨?_, rfl, rfl⟩, ?_⟩ | ((first | refine ei ?_ | refine eh ?_ | refine eb ?_ | refine oh ?_ | skip); exact bg hlt (by unfold maxLen; omega))))
 refine aS (ag (rg 3 rfl (rn (ak ?_))))
 refine fB rfl (fun hc => ?_) (fun hc => ?_)
 ·
  first
  | (cases hc; done)
  | (
   refine aK (aS (aB ?_))
   (have hlt := Bt hc) <;> (
   refine aR (rv Z Z (nU rfl (Hb rfl (Dp (by omega))) (rv Z Z (rn (ah (aR (rg 3 rfl (rn (ak ?_)))))))))
   refine ⟨i + 1, by omega, by omega, ?_⟩
   (refine ⟨Nat.le_of_ble_eq_true rfl, ?_, ?_, ?_⟩ <;> repeat' (first | exact trivial | rfl | refine ⟨⟨?_, rfl⟩, ?_⟩ | refine ⟨⟨?_, rfl, rfl⟩, ?_⟩ | ((first | refine ei ?_ | refine eh ?_ | refine eb ?_ | refine oh ?_ | skip); exact bg hlt (by unfold maxLen; omega))))))
 ·
  first
  | (cases hc; done)
  | (
   refine aW ?_
   repeat (first | refine cO ?_ | refine bE rfl ?_)
   refine bI (aS ?_)
   (have he := B5 hc hi) <;> (
   refine aR (rg 2 rfl (rn (aT ?_)))
   repeat (first | refine an ?_ | refine ac ?_)
   refine rr Z Z ?_
   (rw [he])))
end
theorem Fg {P : Program} [dI P] {s : St} {t t2 : TypeId} {x y : Operand} {k : IntKind} {a b : Int} (hx : gj s x = .int k a) (hy : gj s y = .int k b) (h0 : b ≠ 0) : oF P s (.binOp .quo t x y t2) = some (.int k (k.wrap (a.tdiv b))) := by
 simp only [oF, hx, hy, rB, v7, Bool.false_eq_true, if_false, if_true, B8, if_neg h0]
theorem k8 {k : Nat} (h : 24 ≤ k ∧ k ≤ 31) : k = 24 ∨ k = 25 ∨ k = 26 ∨ k = 27 ∨ k = 28 ∨ k = 29 ∨ k = 30 ∨ k = 31 := by omega
theorem tR (k : Nat) : 1 ≤ dW k := by unfold dW; have := Nat.two_pow_pos k; exact Int.ofNat_le.2 this
theorem EY (k : Nat) : dW k ≠ 0 := by have := tR k; omega
theorem Fj {k : Nat} {x : Int} (h : 24 ≤ k ∧ k ≤ 31) (hx : Bd x) : IntKind.wrap .i64 ((IntKind.wrap .i64 (x + 1073741824)).tdiv (dW k)) = jN (k : Int) x := by
 have hb : Bd x := hx
 unfold Bd at hb
 have e : IntKind.wrap .i64 (x + 1073741824) = x + 1073741824 := gZ (n := x + 1073741824) (by omega)
 have hm : min ((k : Int)).toNat 64 = k := by simp; omega
 unfold jN W
 rw [e, hm]
 have ht : (2 : Int) ^ k = dW k := by unfold dW; push_cast; rfl
 rw [ht, Int.fdiv_eq_ediv_of_nonneg _ (by have := tR k; omega), Int.tdiv_eq_ediv_of_nonneg (by omega)]
 have hp := tR k
 have h1 : 0 ≤ (x + 1073741824) / dW k := Int.ediv_nonneg (by omega) (by omega)
 have h2 : (x + 1073741824) / dW k ≤ x + 1073741824 := Int.ediv_le_self _ (by omega)
 exact gZ (n := (x + 1073741824) / dW k) (by omega)
section
attribute [local irreducible] cg aM DP ai aP Decidable.decide
theorem rI {k : Nat} {x : Int} (hk : 24 ≤ k ∧ k ≤ 31) (hx : Bd x) : ai Tryz.prog 149 [.int .i64 ((k : Nat) : Int), .int .i64 x] (· = .int .i64 (jN (k : Int) x)) := by
 refine cf Tryz.func149 ?_
 refine ag (rv Z Z (rn (ag (rg 3 rfl (bt Z Z Z (yI (by omega)) (nU rfl (Fg Z Z (EY k)) (rv Z Z (rn (aT ?_)))))))))
 repeat (first | refine an ?_ | refine ac ?_)
 refine rr Z Z ?_
 exact ei (Fj hk hx)
end
theorem J9 (x y : Int) : mn x y = mn y x := by unfold mn; omega
def yD (k : Nat) (c : Int) : Int := W (W (c * dW k) - 1073741824)
def yc (k : Nat) (c : Int) : Int := mn 1073741824 (W (W (yD k c + dW k) - 1))
theorem vE {k : Nat} {c : Int} (h : 24 ≤ k ∧ k ≤ 31) : yD k c = jR (k : Int) c := by
 have hm : min ((k : Int)).toNat 64 = k := by simp; omega
 unfold yD jR
 rw [hm]
 have ht : (2 : Int) ^ k = dW k := by unfold dW; push_cast; rfl
 rw [ht]
theorem wv {k : Nat} {c : Int} (h : 24 ≤ k ∧ k ≤ 31) (hc : ef (k : Int) c = false) : yc k c = dg (k : Int) c := by
 have hs : 0 ≤ c ∧ c < jc (k : Int) := by simp [ef] at hc; omega
 unfold yc dg
 rw [← vE h, J9]
 congr 1
 unfold yD
 have hb : jc (k : Int) ≤ 129 := by rcases k8 h with rfl | rfl | rfl | rfl | rfl | rfl | rfl | rfl <;> decide
 have e1 : W (c + 1) = c + 1 := gZ (by omega)
 rw [e1]
 have hk : 1 ≤ dW k ∧ dW k ≤ 2147483648 := by rcases k8 h with rfl | rfl | rfl | rfl | rfl | rfl | rfl | rfl <;> decide
 have hp : 0 ≤ c * dW k := Int.mul_nonneg hs.1 (by omega)
 have hq : c * dW k ≤ 128 * 2147483648 := Int.mul_le_mul (by omega) hk.2 (by omega) (by omega)
 have e0 : (c + 1) * dW k = c * dW k + dW k := by rw [Int.add_mul, Int.one_mul]
 rw [e0]
 generalize c * dW k = z at *
 rw [gZ (n := z) (by omega), gZ (n := z + dW k) (by omega), gZ (n := z - 1073741824) (by omega), gZ (n := z + dW k - 1073741824) (by omega), gZ (n := z - 1073741824 + dW k) (by omega), gZ (by omega), gZ (by omega)]
 omega
section
attribute [local irreducible] cg aM DP ai aP Decidable.decide
theorem GF {k : Nat} {c r : Int} (hk : 24 ≤ k ∧ k ≤ 31) : ai Tryz.prog 148 [.int .i64 ((k : Nat) : Int), .int .i64 c, .int .i64 r] (· = .agg [.int .i64 (yD k c), .int .i64 (yD k r), .int .i64 (yc k c), .int .i64 (yc k r)]) := by
 refine cf Tryz.func148 ?_
 refine ag (ra Z Z Z (rn (ag (rg 2 rfl (bt Z Z Z (yI (by omega)) (rg 3 rfl (rn (ag (rg 2 rfl (bt Z Z Z (yI (by omega)) (rg 3 rfl (rn (ag (rg 4 rfl (bt Z Z Z (yI (by omega)) (rg 2 rfl (bt Z Z Z pQ (rg 2 rfl (bt Z Z Z (yI (by omega)) (rg 2 rfl (bt Z Z Z pQ (rv Z Z (rs Z Z Z Z Z Z Z (rn (aT ?_)))))))))))))))))))))))))
 repeat (first | refine an ?_ | refine ac ?_)
 refine rr Z Z ?_
 rfl
end
theorem AP {k : Nat} {c r : Int} (hk : 24 ≤ k ∧ k ≤ 31) (h : uz (k : Int) c r = true) : ai Tryz.prog 148 [.int .i64 ((k : Nat) : Int), .int .i64 c, .int .i64 r] (· = .agg [.int .i64 (jR (k : Int) c), .int .i64 (jR (k : Int) r), .int .i64 (dg (k : Int) c), .int .i64 (dg (k : Int) r)]) := by
 have h' : ef (k : Int) c = false ∧ ef (k : Int) r = false := by simpa [uz] using h
 have := @GF k c r hk
 rwa [vE hk, vE hk, wv hk h'.1, wv hk h'.2] at this
theorem Bj {s x y : Int} {p q : Bool} (h : cD s = p) (h' : cA x y = q) : ai Tryz.prog 184 [.int .i64 s, .agg [.int .i64 x, .int .i64 y]] (· = CF p q (jN s x) (jN s y)) := h ▸ h' ▸ GS
theorem Ec {s c r : Int} {p : Bool} (h : uz s c r = p) : ai Tryz.prog 130 [.int .i64 s, .int .i64 c, .int .i64 r] (· = FA p s c r) := h ▸ Ik
theorem EU {k : Nat} {x : Int} (h : 24 ≤ k ∧ k ≤ 31) (hx : Bd x) : jN (k : Int) x = (x + 1073741824) / dW k := by
 have hb : Bd x := hx
 unfold Bd at hb
 have e : W (x + 1073741824) = x + 1073741824 := gZ (n := x + 1073741824) (by omega)
 have hm : min ((k : Int)).toNat 64 = k := by simp; omega
 unfold jN
 rw [e, hm]
 have ht : (2 : Int) ^ k = dW k := by unfold dW; push_cast; rfl
 rw [ht, Int.fdiv_eq_ediv_of_nonneg _ (by have := tR k; omega)]
theorem zr {k : Nat} {x : Int} (h : 24 ≤ k ∧ k ≤ 31) (hx : Bd x) : ef (k : Int) (jN (k : Int) x) = false ∧ jR (k : Int) (jN (k : Int) x) ≤ x ∧ x ≤ dg (k : Int) (jN (k : Int) x) := by
 have hb : Bd x := hx
 unfold Bd at hb
 have hp := tR k
 rw [EU h hx]
 have hq : (dW k = 16777216 ∧ jc (k : Int) = 129) ∨ (dW k = 33554432 ∧ jc (k : Int) = 65) ∨ (dW k = 67108864 ∧ jc (k : Int) = 33) ∨ (dW k = 134217728 ∧ jc (k : Int) = 17) ∨ (dW k = 268435456 ∧ jc (k : Int) = 9) ∨ (dW k = 536870912 ∧ jc (k : Int) = 5) ∨ (dW k = 1073741824 ∧ jc (k : Int) = 3) ∨ (dW k = 2147483648 ∧ jc (k : Int) = 2) := by
  rcases k8 h with rfl | rfl | rfl | rfl | rfl | rfl | rfl | rfl <;> decide
 have hz : ∃ z, (x + 1073741824) / dW k = z ∧ 0 ≤ z ∧ z < jc (k : Int) ∧ z * dW k ≤ x + 1073741824 ∧ x + 1073741824 < z * dW k + dW k ∧ 0 ≤ z * dW k ∧ dW k ≤ 2147483648 := by
  rcases hq with ⟨e1, e2⟩ | ⟨e1, e2⟩ | ⟨e1, e2⟩ | ⟨e1, e2⟩ | ⟨e1, e2⟩ | ⟨e1, e2⟩ | ⟨e1, e2⟩ | ⟨e1, e2⟩ <;> rw [e1, e2] <;> exact ⟨_, rfl, by omega, by omega, by omega, by omega, by omega, by omega⟩
 obtain ⟨z, hz, h1, h2, h3, h4, h5, h6⟩ := hz
 rw [hz]
 have hf : ef (k : Int) z = false := by simp [ef]; omega
 refine ⟨hf, ?_, ?_⟩
 ·
  rw [← vE h]
  unfold yD
  rw [gZ (n := z * dW k) (by omega), gZ (by omega)]; omega
 ·
  rw [← wv h hf]
  unfold yc yD
  generalize z * dW k = u at *
  rw [gZ (n := u) (by omega), gZ (n := u - 1073741824) (by omega), gZ (n := u - 1073741824 + dW k) (by omega), gZ (by omega)]
  unfold mn
  split <;> omega
theorem gW {a b c d : Int} (h : eL a b c d = true) : cA a b = true ∧ cA c d = true ∧ a ≤ c ∧ b ≤ d := by
 simp only [eL, Bool.and_eq_true, decide_eq_true_eq] at h; exact ⟨h.1.1.1, h.1.1.2, h.1.2, h.2⟩
theorem C2 {s : Int} (h : cD s = true) : ∃ k : Nat, s = (k : Int) ∧ 24 ≤ k ∧ k ≤ 31 := by
 simp [cD] at h; exact ⟨s.toNat, by omega, by omega, by omega⟩
theorem xa {s x y : Int} (h : cD s = true) (hm : cA x y = true) : uz s (jN s x) (jN s y) = true := by
 obtain ⟨k, rfl, hk⟩ := C2 h
 have hb := ec.1 hm
 unfold uz
 rw [(zr hk hb.1).1, (zr hk hb.2).1]; rfl
def Jm (s a b c d : Int) : Int × Int × Int × Int := (mn (jR s (jN s a)) (jR s (jN s c)), mn (jR s (jN s b)) (jR s (jN s d)), mx (dg s (jN s a)) (dg s (jN s c)), mx (dg s (jN s b)) (dg s (jN s d)))
theorem wl {a b c d : Int} {p : Bool} (h : eL a b c d = p) : ai Tryz.prog 75 [.agg [.int .i64 a, .int .i64 b, .int .i64 c, .int .i64 d]] (· = .bool p) := h ▸ De
theorem Cy {a b c d : Int} {p : Bool} (h : eL a b c d = p) : ai Tryz.prog 91 [.agg [.int .i64 a, .int .i64 b, .int .i64 c, .int .i64 d]] (· = .bool p) := h ▸ A4
theorem uW {a b c d a' b' c' d' : Int} {p : Bool} (h : cP a b c d a' b' c' d' = p) : ai Tryz.prog 136 [.agg [.int .i64 a, .int .i64 b, .int .i64 c, .int .i64 d], .agg [.int .i64 a', .int .i64 b', .int .i64 c', .int .i64 d']] (· = .bool p) := h ▸ Eb
theorem BH {a b c d a' b' c' d' : Int} (h1 : a' ≤ c') (h2 : b' ≤ d') : (inR a b c d a' b' && inR a b c d c' d') = cP a b c d a' b' c' d' := by
 rw [Bool.eq_iff_iff]; simp only [inR, cP, Bool.and_eq_true, decide_eq_true_eq]; omega
section
attribute [local irreducible] cg aM DP ai aP Decidable.decide Nat.mod bT cA eL dm pR inR box du cP vm cD jN jR dg ef uz
theorem Gr {s a b c d : Int} {p q : Bool} (hp : eL a b c d = p) (hq : cD s = q) : ai Tryz.prog 129 [.int .i64 s, .agg [.int .i64 a, .int .i64 b, .int .i64 c, .int .i64 d]] (· = BN (p && q) (jN s a, jN s b, jN s c, jN s d)) := by
 refine cf Tryz.func129 ?_
 refine aS ?_
 (rcases p with _ | _ <;> rcases q with _ | _) <;> (
 refine aR (rb Z Z (ra Z Z Z (rv Z Z (rn (aS (ag (rv Z Z (bt Z Z Z (wl hp) (rv Z Z (rn (ak ?_)))))))))))
 refine fB rfl (fun hc => ?_) (fun hc => ?_)
 ·
  first
  | (cases hc; done)
  | (
   refine ag (rg 2 rfl (rs Z Z Z Z Z Z Z (rv Z Z (rn (aT ?_)))))
   repeat (first | refine an ?_ | refine ac ?_)
   refine rr Z Z ?_
   first | rfl | (cases hc; done) | trace_state)
 ·
  first
  | (cases hc; done)
  | (
   refine aK (ag (rg 6 rfl (bt Z Z Z (Bj hq (gW hp).1) (rg 7 rfl (rn (aS (ag (rg 2 rfl (rn (ak ?_))))))))))
   refine fB rfl (fun hc => ?_) (fun hc => ?_)
   ·
    first
    | (cases hc; done)
    | (
     refine ag (rg 2 rfl (rs Z Z Z Z Z Z Z (rv Z Z (rn (aT ?_)))))
     repeat (first | refine an ?_ | refine ac ?_)
     refine rr Z Z ?_
     first | rfl | (cases hc; done) | trace_state)
   ·
    first
    | (cases hc; done)
    | (
     refine aK (ag (rg 6 rfl (bt Z Z Z (Bj hq (gW hp).2.1) (rg 7 rfl (rn (ag (rg 6 rfl (rs Z Z Z Z Z Z Z (rv Z Z (rn (aT ?_)))))))))))
     repeat (first | refine an ?_ | refine ac ?_)
     refine rr Z Z ?_
     first | rfl | (cases hc; done) | trace_state)))
end
section
attribute [local irreducible] cg aM DP ai aP Decidable.decide Nat.mod bT cA eL dm pR inR box du cP vm cD jN jR dg ef uz
theorem Hl {s a b c d : Int} {p q : Bool} (hp : eL a b c d = p) (hq : cD s = q) : ai Tryz.prog 81 [.int .i64 s, .agg [.int .i64 a, .int .i64 b, .int .i64 c, .int .i64 d]] (· = BN (p && q) (Jm s a b c d)) := by
 refine cf Tryz.func81 ?_
 refine aS ?_
 (rcases p with _ | _ <;> rcases q with _ | _) <;> (
 refine aR (rb Z Z (ra Z Z Z (rv Z Z (rn (ag (rg 2 rfl (bt Z Z Z (Gr hp hq) (rg 3 rfl (ra Z Z Z (rs Z Z Z Z Z Z Z (rv Z Z (rn (aS (ag (rg 2 rfl (rn (ak ?_)))))))))))))))))
 refine fB rfl (fun hc => ?_) (fun hc => ?_)
 ·
  first
  | (cases hc; done)
  | (
   refine ag (rg 2 rfl (rs Z Z Z Z Z Z Z (rv Z Z (rn (aT ?_)))))
   repeat (first | refine an ?_ | refine ac ?_)
   refine rr Z Z ?_
   first | rfl | (cases hc; done) | trace_state)
 ·
  first
  | (cases hc; done)
  | (
   refine aK (ag (rg 5 rfl (bt Z Z Z (Ec (xa hq (gW hp).1)) (rg 3 rfl (ra Z Z Z (rs Z Z Z Z Z Z Z (rv Z Z (rn (aS (ag (rg 2 rfl (rn (ak ?_)))))))))))))
   refine fB rfl (fun hc => ?_) (fun hc => ?_)
   ·
    first
    | (cases hc; done)
    | (
     refine ag (rg 2 rfl (rs Z Z Z Z Z Z Z (rv Z Z (rn (aT ?_)))))
     repeat (first | refine an ?_ | refine ac ?_)
     refine rr Z Z ?_
     first | rfl | (cases hc; done) | trace_state)
   ·
    first
    | (cases hc; done)
    | (
     refine aK (ag (rg 5 rfl (bt Z Z Z (Ec (xa hq (gW hp).2.1)) (rg 3 rfl (ra Z Z Z (rs Z Z Z Z Z Z Z (rv Z Z (rn (ag (rg 2 rfl (bt Z Z Z Aq (rv Z Z (rs Z Z Z Z Z Z Z (rv Z Z (rn (aT ?_))))))))))))))))
     repeat (first | refine an ?_ | refine ac ?_)
     refine rr Z Z ?_
     first | rfl | (cases hc; done) | trace_state)))
end
theorem sd {k : Nat} {x : Int} (h : 24 ≤ k ∧ k ≤ 31) (hx : Bd x) : Bd (dg (k : Int) (jN (k : Int) x)) := by
 have h1 := (zr h hx).2.2
 have h2 : dg (k : Int) (jN (k : Int) x) ≤ 1073741824 := by unfold dg mn; split <;> omega
 unfold Bd at *; omega
theorem CW {k : Nat} {a b c d : Int} {x1 y1 x2 y2 : Int} (h : 24 ≤ k ∧ k ≤ 31) (h1 : Bd x1) (h2 : Bd y1) (h3 : Bd x2) (h4 : Bd y2) : ai Tryz.prog 90 [.agg [.int .i64 a, .int .i64 b, .int .i64 (dg (k : Int) (jN (k : Int) x1)), .int .i64 (dg (k : Int) (jN (k : Int) y1))], .agg [.int .i64 c, .int .i64 d, .int .i64 (dg (k : Int) (jN (k : Int) x2)), .int .i64 (dg (k : Int) (jN (k : Int) y2))]]
  (· = .agg [.int .i64 (mn a c), .int .i64 (mn b d), .int .i64 (mx (dg (k : Int) (jN (k : Int) x1)) (dg (k : Int) (jN (k : Int) x2))), .int .i64 (mx (dg (k : Int) (jN (k : Int) y1)) (dg (k : Int) (jN (k : Int) y2)))]) := by
 have := @AN a b (dg (k : Int) (jN (k : Int) x1)) (dg (k : Int) (jN (k : Int) y1)) c d (dg (k : Int) (jN (k : Int) x2)) (dg (k : Int) (jN (k : Int) y2))
 rwa [qc (sd h h1) (sd h h3), qc (sd h h2) (sd h h4), rL c, rL d] at this
section
attribute [local irreducible] cg aM DP ai aP Decidable.decide Nat.mod bT cA eL dm pR inR box du cP vm cD jN jR dg ef uz
theorem Ds {k : Nat} {a b c d : Int} (hk : 24 ≤ k ∧ k ≤ 31) (hq : cD (k : Int) = true) (hp : eL a b c d = true) : ai Tryz.prog 96 [.int .i64 ((k : Nat) : Int), .agg [.int .i64 a, .int .i64 b, .int .i64 c, .int .i64 d]] (· = Jy (Jm (k : Int) a b c d)) := by
 refine cf Tryz.func96 ?_
 refine ag (rb Z Z (ra Z Z Z (rn (aS (mw 21 Tryz.mix (dv Z Z (fun _ => rfl) (dv Z Z (fun _ => rfl) (dv Z Z (fun _ => rfl) (dv Z Z (fun _ => rfl) (dc Z Z Z Z (fun _ => rfl) (fun _ => (rI hk (ec.1 (gW hp).1).1)) (dv Z Z (fun _ => rfl) (dv Z Z (fun _ => rfl) (dv Z Z (fun _ => rfl) (dc Z Z Z Z (fun _ => rfl) (fun _ => (rI hk (ec.1 (gW hp).1).2)) (dc Z Z Z Z (fun _ => rfl) (fun _ => (AP hk (xa hq (gW hp).1))) (dv Z Z (fun _ => rfl) (dv Z Z (fun _ => rfl) (dv Z Z (fun _ => rfl) (dv Z Z (fun _ => rfl) (dc Z Z Z Z (fun _ => rfl) (fun _ => (rI hk (ec.1 (gW hp).2.1).1)) (dv Z Z (fun _ => rfl) (dv Z Z (fun _ => rfl) (dv Z Z (fun _ => rfl) (dc Z Z Z Z (fun _ => rfl) (fun _ => (rI hk (ec.1 (gW hp).2.1).2)) (dc Z Z Z Z (fun _ => rfl) (fun _ => (AP hk (xa hq (gW hp).2.1))) (dc Z Z Z Z (fun _ => rfl) (fun _ => (CW hk (ec.1 (gW hp).1).1 (ec.1 (gW hp).1).2 (ec.1 (gW hp).2.1).1 (ec.1 (gW hp).2.1).2)) (dn (rs Z Z Z Z Z Z Z (rn (aT ?_))))))))))))))))))))))))))))))
 repeat (first | refine an ?_ | refine ac ?_)
 refine rr Z Z ?_
 first | rfl | trace_state
end
theorem Ag {a b c d : Int} {l : List Pt} (hm : dm a b c d l = true) : eL (lT a b c d l).1 (lT a b c d l).2.1 (lT a b c d l).2.2.1 (lT a b c d l).2.2.2 = true := by
 cases l with
 | nil => exact hm
 | cons q t =>
  have hs := (jV hm).2
  have ha : d9 (q :: t) = true := List.all_eq_true.2 hs.may
  obtain ⟨b1, b2, b3, b4⟩ := (y9 ha t.length (by simp)).1
  have key : ∀ i, 0 < i → i ≤ (q :: t).length → (box (q :: t) i).1 ≤ (box (q :: t) i).2.2.1 ∧ (box (q :: t) i).2.1 ≤ (box (q :: t) i).2.2.2 := by
   intro i
   induction i with
   | zero => intro h; omega
   | succ i ih =>
    intro _ hi
    by_cases h0 : i = 0
    · subst h0; rw [pt (by omega) rfl]; simp
    ·
     rw [nv (i := i) (by omega) (by simp; omega)]
     have := ih (by omega) (by omega)
     simp only [sP, sT]; omega
  have hk := key (q :: t).length (by simp) (Nat.le_refl _)
  exact Du.2 ⟨⟨b1, b2, b3, b4⟩, hk.1, hk.2⟩
def H7 (A B C D : Int) (r : Int × Int × Int × Int) : Int × Int × Int × Int := (W (A - r.1), W (B - r.2.1), W (C - r.2.2.1), W (D - r.2.2.2))
def JU (z : Bool) (r : Int × Int × Int × Int) : AV := match z with
 | true => .tup [.agg [.int .i64 r.1, .int .i64 r.2.1, .int .i64 r.2.2.1, .int .i64 r.2.2.2], .bool true]
 | false => .tup [.agg [.int .i64 0, .int .i64 0, .int .i64 0, .int .i64 0], .bool false]
theorem BJ {a b c d A B C D : Int} {l : List Pt} {q : Bool} (hm : dm a b c d l = true) (h : cP A B C D (lT a b c d l).1 (lT a b c d l).2.1 (lT a b c d l).2.2.1 (lT a b c d l).2.2.2 = q) : ai Tryz.prog 13 [.agg [.int .i64 A, .int .i64 B, .int .i64 C, .int .i64 D], .agg [.int .i64 (lT a b c d l).1, .int .i64 (lT a b c d l).2.1, .int .i64 (lT a b c d l).2.2.1, .int .i64 (lT a b c d l).2.2.2]] (· = .bool q) := by
 have h1 := gW (Ag hm)
 rw [← h, ← BH h1.2.2.1 h1.2.2.2]
 exact C6
section
attribute [local irreducible] cg aM DP ai aP Decidable.decide Nat.mod bT cA eL dm pR inR box du cP vm cD jN jR dg ef uz
theorem Im {a b c d A B C D : Int} {l : List Pt} {m p q : Bool} (hl : l.length ≤ maxLen) (hm : dm a b c d l = m) (hp : eL A B C D = p) (hq : cP A B C D (lT a b c d l).1 (lT a b c d l).2.1 (lT a b c d l).2.2.1 (lT a b c d l).2.2.2 = q) : ai Tryz.prog 88 [.agg [.int .i64 (a), .int .i64 (b), .int .i64 (c), .int .i64 (d), .sl (rows l)], .agg [.int .i64 A, .int .i64 B, .int .i64 C, .int .i64 D]] (· = BN (m && (p && q)) (H7 A B C D (lT a b c d l))) := by
 refine cf Tryz.func88 ?_
 refine aS ?_
 (rcases m with _ | _ <;> rcases p with _ | _ <;> rcases q with _ | _) <;> (
 refine aR (rb Z Z (rb Z Z (ra Z Z Z (rv Z Z (rn (ag (rv Z Z (bt Z Z Z (Eq hl hm) (rg 3 rfl (ra Z Z Z (rs Z Z Z Z Z Z Z (rv Z Z (rn (aS (ag (rg 3 rfl ?_))))))))))))))))
 ((first | refine d6 (rv Z Z ?_) | refine d7 ?_ | refine d8 ?_ | refine gs Z Z Z Z Z (fun hg => rv Z Z ?_) fun hg => ?_)) <;> (
 (first | refine d6 (bt Z Z Z (wl hp) (?_)) | refine d7 ?_ | refine d8 ?_ | refine gs Z Z Z Z Z (fun hg => bt Z Z Z (wl hp) (?_)) fun hg => ?_) <;> (
 ((first | refine d6 (rv Z Z ?_) | refine d7 ?_ | refine d8 ?_ | refine gs Z Z Z Z Z (fun hg => rv Z Z ?_) fun hg => ?_)) <;> (
 refine rg 2 rfl ?_
 (iterate 2 all_goals (first | refine d6 (rv Z Z ?_) | refine d7 ?_ | refine d8 ?_ | refine gs Z Z Z Z Z (fun hg => rv Z Z ?_) fun hg => ?_)) <;> (
 (first | refine d6 (bt Z Z Z (uW hq) (?_)) | refine d7 ?_ | refine d8 ?_ | refine gs Z Z Z Z Z (fun hg => bt Z Z Z (uW hq) (?_)) fun hg => ?_) <;> (
 ((first | refine d6 (rv Z Z ?_) | refine d7 ?_ | refine d8 ?_ | refine gs Z Z Z Z Z (fun hg => rv Z Z ?_) fun hg => ?_)) <;> (
 refine rv Z Z (rn (ak ?_))
 refine fB rfl (fun hc => ?_) (fun hc => ?_)
 ·
  first
  | (cases hc; done)
  | (
   refine ag (rg 2 rfl (rs Z Z Z Z Z Z Z (rv Z Z (rn (aT ?_)))))
   repeat (first | refine an ?_ | refine ac ?_)
   refine rr Z Z ?_
   first | rfl | (cases hc; done) | trace_state)
 ·
  first
  | (cases hc; done)
  | (
   refine aK (ag (rg 21 rfl (rs Z Z Z Z Z Z Z (rv Z Z (rn (aT ?_))))))
   repeat (first | refine an ?_ | refine ac ?_)
   refine rr Z Z ?_
   first | rfl | (cases hc; done) | trace_state))))))))
end
section
attribute [local irreducible] cg aM DP ai aP Decidable.decide Nat.mod bT cA eL dm pR inR box du cP vm cD jN jR dg ef uz
theorem EG {a b c d A B C D : Int} {l : List Pt} {m p q : Bool} (hl : l.length ≤ maxLen) (hm : dm a b c d l = m) (hp : eL A B C D = p) (hq : cP A B C D (lT a b c d l).1 (lT a b c d l).2.1 (lT a b c d l).2.2.1 (lT a b c d l).2.2.2 = q) : ai Tryz.prog 98 [.agg [.int .i64 (a), .int .i64 (b), .int .i64 (c), .int .i64 (d), .sl (rows l)], .agg [.int .i64 A, .int .i64 B, .int .i64 C, .int .i64 D]] (· = JU (m && (p && q)) (H7 A B C D (lT a b c d l))) := by
 refine cf Tryz.func98 ?_
 refine aS ?_
 (rcases m with _ | _ <;> rcases p with _ | _ <;> rcases q with _ | _) <;> (
 refine aR (rb Z Z (rb Z Z (ra Z Z Z (rv Z Z (rn (ag (rv Z Z (bt Z Z Z (Dx hl hm) (rv Z Z (rn (ag (rv Z Z (bt Z Z Z (Cy hp) (rv Z Z (rn (aS (ag (rg 3 rfl ?_))))))))))))))))))
 (iterate 2 all_goals (first | refine d6 (rv Z Z ?_) | refine d7 ?_ | refine d8 ?_ | refine gs Z Z Z Z Z (fun hg => rv Z Z ?_) fun hg => ?_)) <;> (
 refine rv Z Z (rn (ak ?_))
 refine fB rfl (fun hc => ?_) (fun hc => ?_)
 ·
  first
  | (cases hc; done)
  | (
   refine ag (rv Z Z (rs Z Z Z Z Z Z Z (rv Z Z (rn (aT ?_)))))
   repeat (first | refine an ?_ | refine ac ?_)
   refine rr Z Z ?_
   first | rfl | (cases hc; done) | trace_state)
 ·
  first
  | (cases hc; done)
  | (
   refine aK (ag (rv Z Z (bt Z Z Z (Bb hl hm) (ra Z Z Z (rs Z Z Z Z Z Z Z (rn (ag (rg 2 rfl (bt Z Z Z (BJ hm hq) (rv Z Z (rn (aS (ag (rg 2 rfl (rn (ak ?_))))))))))))))))
   refine fB rfl (fun hc => ?_) (fun hc => ?_)
   ·
    first
    | (cases hc; done)
    | (
     refine ag (rv Z Z (rs Z Z Z Z Z Z Z (rv Z Z (rn (aT ?_)))))
     repeat (first | refine an ?_ | refine ac ?_)
     refine rr Z Z ?_
     first | rfl | (cases hc; done) | trace_state)
   ·
    first
    | (cases hc; done)
    | (
     refine aK (ag (rg 21 rfl (rs Z Z Z Z Z Z Z (rv Z Z (rn (aT ?_))))))
     repeat (first | refine an ?_ | refine ac ?_)
     refine rr Z Z ?_
     first | rfl | (cases hc; done) | trace_state))))
end
def Cn (z : Bool) (r : Int × Int × Int × Int) (v : Pt) : Bool := z && inR r.1 r.2.1 r.2.2.1 r.2.2.2 v.1 v.2
section
attribute [local irreducible] cg aM DP ai aP Decidable.decide Nat.mod bT cA eL dm pR inR box du cP vm cD jN jR dg ef uz
theorem GU {a b c d A B C D : Int} {l : List Pt} {m p q : Bool} {v : Pt} (hl : l.length ≤ maxLen) (hm : dm a b c d l = m) (hp : eL A B C D = p) (hq : cP A B C D (lT a b c d l).1 (lT a b c d l).2.1 (lT a b c d l).2.2.1 (lT a b c d l).2.2.2 = q) : ai Tryz.prog 50 [.agg [.int .i64 (a), .int .i64 (b), .int .i64 (c), .int .i64 (d), .sl (rows l)], .agg [.int .i64 A, .int .i64 B, .int .i64 C, .int .i64 D], .agg [.int .i64 (v).1, .int .i64 (v).2]] (· = .bool (Cn (m && (p && q)) (H7 A B C D (lT a b c d l)) v)) := by
 refine cf Tryz.func50 ?_
 refine aS ?_
 (rcases m with _ | _ <;> rcases p with _ | _ <;> rcases q with _ | _) <;> (
 refine aR (rb Z Z (rb Z Z (rb Z Z (rv Z Z (rn (ag (rg 2 rfl (bt Z Z Z (Im hl hm hp hq) (rg 3 rfl (ra Z Z Z (rs Z Z Z Z Z Z Z (rv Z Z (rn (ag (rg 3 rfl ?_)))))))))))))))
 (iterate 2 all_goals (first | refine d6 (rv Z Z ?_) | refine d7 ?_ | refine d8 ?_ | refine gs Z Z Z Z Z (fun hg => rv Z Z ?_) fun hg => ?_)) <;> (
 (first | refine d6 (bt Z Z Z DB (?_)) | refine d7 ?_ | refine d8 ?_ | refine gs Z Z Z Z Z (fun hg => bt Z Z Z DB (?_)) fun hg => ?_) <;> (
 refine rg 2 rfl (rn (aT ?_))
 repeat (first | refine an ?_ | refine ac ?_)
 refine rr Z Z ?_
 first | rfl | (cases hc; done) | trace_state)))
end
section
attribute [local irreducible] cg aM DP ai aP Decidable.decide Nat.mod bT cA eL dm pR inR box du cP vm cD jN jR dg ef uz
theorem EN {a b c d A B C D : Int} {l : List Pt} {m p q : Bool} {v : Pt} (hl : l.length ≤ maxLen) (hm : dm a b c d l = m) (hp : eL A B C D = p) (hq : cP A B C D (lT a b c d l).1 (lT a b c d l).2.1 (lT a b c d l).2.2.1 (lT a b c d l).2.2.2 = q) : ai Tryz.prog 59 [.agg [.int .i64 (a), .int .i64 (b), .int .i64 (c), .int .i64 (d), .sl (rows l)], .agg [.int .i64 A, .int .i64 B, .int .i64 C, .int .i64 D], .agg [.int .i64 (v).1, .int .i64 (v).2]] (· = .bool (Cn (m && (p && q)) (H7 A B C D (lT a b c d l)) v)) := by
 refine cf Tryz.func59 ?_
 refine aS ?_
 (rcases m with _ | _ <;> rcases p with _ | _ <;> rcases q with _ | _) <;> (
 refine aR (rb Z Z (rb Z Z (rb Z Z (rv Z Z (rn (ag (rg 2 rfl (bt Z Z Z (EG hl hm hp hq) (rg 3 rfl (ra Z Z Z (rs Z Z Z Z Z Z Z (rv Z Z (rn (ag (rg 2 rfl ?_)))))))))))))))
 (iterate 2 all_goals (first | refine d6 (rv Z Z ?_) | refine d7 ?_ | refine d8 ?_ | refine gs Z Z Z Z Z (fun hg => rv Z Z ?_) fun hg => ?_)) <;> (
 (first | refine d6 (bt Z Z Z yg (?_)) | refine d7 ?_ | refine d8 ?_ | refine gs Z Z Z Z Z (fun hg => bt Z Z Z yg (?_)) fun hg => ?_) <;> (
 refine rg 2 rfl (rn (aT ?_))
 repeat (first | refine an ?_ | refine ac ?_)
 refine rr Z Z ?_
 first | rfl | (cases hc; done) | trace_state)))
end
def I9 (s a b c d : Int) (l : List Pt) : Int × Int × Int × Int := Jm s (lT a b c d l).1 (lT a b c d l).2.1 (lT a b c d l).2.2.1 (lT a b c d l).2.2.2
section
attribute [local irreducible] cg aM DP ai aP Decidable.decide Nat.mod bT cA eL dm pR inR box du cP vm cD jN jR dg ef uz
theorem DU {s a b c d : Int} {l : List Pt} {m q : Bool} (hl : l.length ≤ maxLen) (hm : dm a b c d l = m) (hq : cD s = q) : ai Tryz.prog 45 [.int .i64 s, .agg [.int .i64 (a), .int .i64 (b), .int .i64 (c), .int .i64 (d), .sl (rows l)]] (· = BN (m && q) (I9 s a b c d l)) := by
 refine cf Tryz.func45 ?_
 refine aS ?_
 (rcases m with _ | _ <;> rcases q with _ | _) <;> (
 refine aR (rb Z Z (ra Z Z Z (rv Z Z (rn (ag (rv Z Z (bt Z Z Z (Eq hl hm) (rg 3 rfl (ra Z Z Z (rs Z Z Z Z Z Z Z (rv Z Z (rn (aS (ag (rg 2 rfl (rn (ak ?_)))))))))))))))))
 refine fB rfl (fun hc => ?_) (fun hc => ?_)
 ·
  first
  | (cases hc; done)
  | (
   refine ag (rg 2 rfl (rs Z Z Z Z Z Z Z (rv Z Z (rn (aT ?_)))))
   repeat (first | refine an ?_ | refine ac ?_)
   refine rr Z Z ?_
   first | rfl | (cases hc; done) | trace_state)
 ·
  first
  | (cases hc; done)
  | (
   refine aK (ag (rg 2 rfl (bt Z Z Z (Hl (Ag hm) hq) (rg 2 rfl (rs Z Z Z Z Z Z Z (rv Z Z (rn (aT ?_))))))))
   repeat (first | refine an ?_ | refine ac ?_)
   refine rr Z Z ?_
   first | rfl | (cases hc; done) | trace_state))
end
section
attribute [local irreducible] cg aM DP ai aP Decidable.decide Nat.mod bT cA eL dm pR inR box du cP vm cD jN jR dg ef uz
theorem BI {k : Nat} {a b c d : Int} {l : List Pt} (hl : l.length ≤ maxLen) (hm : dm a b c d l = true) (hk : 24 ≤ k ∧ k ≤ 31) (hq : cD (k : Int) = true) : ai Tryz.prog 57 [.int .i64 ((k : Nat) : Int), .agg [.int .i64 (a), .int .i64 (b), .int .i64 (c), .int .i64 (d), .sl (rows l)]] (· = Jy (I9 (k : Int) a b c d l)) := by
 refine cf Tryz.func57 ?_
 refine ag (rb Z Z (ra Z Z Z (rn (ag (rg 2 rfl (bt Z Z Z (Bb hl hm) (bt Z Z Z (Ds hk hq (Ag hm)) (rs Z Z Z Z Z Z Z (rn (aT ?_))))))))))
 repeat (first | refine an ?_ | refine ac ?_)
 refine rr Z Z ?_
 first | rfl | trace_state
end
structure ba where
 X1 : Int
 Y1 : Int
 X2 : Int
 Y2 : Int
def nM (x : ba) : List AV := [.int .i64 x.X1, .int .i64 x.Y1, .int .i64 x.X2, .int .i64 x.Y2]
structure aZ where
 X : Int
 Y : Int
def aH (x : aZ) : List AV := [.int .i64 x.X, .int .i64 x.Y]
structure aF where
 Rect : ba
 Poly : List aZ
def d5 (x : aF) : List AV := [.int .i64 x.Rect.X1, .int .i64 x.Rect.Y1, .int .i64 x.Rect.X2, .int .i64 x.Rect.Y2, .sl (x.Poly.map aH)]
def yP (x : ba) : Prop := Go.Pv.okI .i64 x.X1 ∧ Go.Pv.okI .i64 x.Y1 ∧ Go.Pv.okI .i64 x.X2 ∧ Go.Pv.okI .i64 x.Y2
theorem Br {n : Nat} {cs : List AV} (h : kB Tryz.prog n 23 cs) : ∃ a : ba, cs = nM a ∧ yP a := by
 obtain ⟨m, rfl, h⟩ := iS (i := Tryz.i23) rfl rfl h
 obtain ⟨a0, r0, rfl, _, h0, h⟩ := h
 obtain ⟨a1, r1, rfl, _, h1, h⟩ := h
 obtain ⟨a2, r2, rfl, _, h2, h⟩ := h
 obtain ⟨a3, r3, rfl, _, h3, h⟩ := h
 obtain rfl : r3 = [] := h
 obtain ⟨x0, rfl, k0⟩ := gq (i := Tryz.i2) rfl rfl h0
 obtain ⟨x1, rfl, k1⟩ := gq (i := Tryz.i2) rfl rfl h1
 obtain ⟨x2, rfl, k2⟩ := gq (i := Tryz.i2) rfl rfl h2
 obtain ⟨x3, rfl, k3⟩ := gq (i := Tryz.i2) rfl rfl h3
 exact ⟨⟨x0, x1, x2, x3⟩, rfl, k0, k1, k2, k3⟩
def lE (x : aZ) : Prop := Go.Pv.okI .i64 x.X ∧ Go.Pv.okI .i64 x.Y
theorem oW {n : Nat} {cs : List AV} (h : kB Tryz.prog n 43 cs) : ∃ a : aZ, cs = aH a ∧ lE a := by
 obtain ⟨m, rfl, h⟩ := iS (i := Tryz.i43) rfl rfl h
 obtain ⟨a0, r0, rfl, _, h0, h⟩ := h
 obtain ⟨a1, r1, rfl, _, h1, h⟩ := h
 obtain rfl : r1 = [] := h
 obtain ⟨x0, rfl, k0⟩ := gq (i := Tryz.i2) rfl rfl h0
 obtain ⟨x1, rfl, k1⟩ := gq (i := Tryz.i2) rfl rfl h1
 exact ⟨⟨x0, x1⟩, rfl, k0, k1⟩
def th (x : aF) : Prop := yP x.Rect ∧ BQ (lE) x.Poly
theorem yF {n : Nat} {cs : List AV} (h : kB Tryz.prog n 26 cs) : ∃ a : aF, cs = d5 a ∧ th a := by
 obtain ⟨m, rfl, h⟩ := iS (i := Tryz.i26) rfl rfl h
 obtain ⟨a0, r0, rfl, _, h0, h⟩ := h
 obtain ⟨a1, r1, rfl, _, h1, h⟩ := h
 obtain rfl : r1 = [] := h
 obtain ⟨x0, rfl, k0⟩ := Br h0
 obtain ⟨x1, rfl, k1⟩ := uf (c := aH) (Q := lE) (i := Tryz.i24) rfl rfl (fun _ _ h => oW h) h1
 exact ⟨⟨x0, x1⟩, rfl, k0, k1⟩
def pZ (l : List aZ) : List Pt := l.map fun p => (p.X, p.Y)
theorem ie (l : List aZ) : rows (pZ l) = l.map aH := by
 unfold rows pZ; rw [List.map_map]; rfl
theorem jO (l : List aZ) : (pZ l).length = l.length := by unfold pZ; rw [List.length_map]
def Cv (g : aF) (v : aZ) : aF := match g.Poly with
 | [] => ⟨⟨W (g.Rect.X1 + v.X), W (g.Rect.Y1 + v.Y), W (g.Rect.X2 + v.X), W (g.Rect.Y2 + v.Y)⟩, []⟩
 | _ :: _ => ⟨⟨0, 0, 0, 0⟩, g.Poly.map fun p => ⟨(mv (v.X, v.Y) (p.X, p.Y)).1, (mv (v.X, v.Y) (p.X, p.Y)).2⟩⟩
def iB (g : aF) : Bool := dm g.Rect.X1 g.Rect.Y1 g.Rect.X2 g.Rect.Y2 (pZ g.Poly)
def Jx (r : ba) : Bool := eL r.X1 r.Y1 r.X2 r.Y2
def um (g : aF) (v : aZ) : Bool := F6 g.Rect.X1 g.Rect.Y1 g.Rect.X2 g.Rect.Y2 (pZ g.Poly) (v.X, v.Y)
def z4 : ba := ⟨0, 0, 0, 0⟩
def A7 (g : aF) (v : aZ) : aF × Er := bif iB g then (bif um g v then (Cv g v, none) else (⟨z4, []⟩, some 11)) else (⟨z4, []⟩, some 1)
def JG (q : Int × Int × Int × Int) : ba := ⟨q.1, q.2.1, q.2.2.1, q.2.2.2⟩
def JV (g : aF) : ba := JG (lT g.Rect.X1 g.Rect.Y1 g.Rect.X2 g.Rect.Y2 (pZ g.Poly))
def JY (a b : ba) : Bool := cP a.X1 a.Y1 a.X2 a.Y2 b.X1 b.Y1 b.X2 b.Y2
def yu (g : aF) (b : ba) (v : aZ) : Bool := Cn (iB g && (Jx b && JY b (JV g))) (H7 b.X1 b.Y1 b.X2 b.Y2 (lT g.Rect.X1 g.Rect.Y1 g.Rect.X2 g.Rect.Y2 (pZ g.Poly))) (v.X, v.Y)
def Cc (s : Int) (g : aF) : ba := JG (I9 s g.Rect.X1 g.Rect.Y1 g.Rect.X2 g.Rect.Y2 (pZ g.Poly))
def FK (s : Int) (g : aF) : ba × Er := bif iB g && cD s then (Cc s g, none) else (z4, some 1)
def IO (g : aF) (p : aZ) : Bool := vm g.Rect.X1 g.Rect.Y1 g.Rect.X2 g.Rect.Y2 (pZ g.Poly) (p.X, p.Y)
theorem vp {P : Program} {f : FuncId} {args : List AV} {x : AV} {t : TypeId} {e : Er} (h : ai P f args (· = .tup [x, nS t e])) : ai P f args (· = .tup [x, .err t e]) := zW (xs := [x]) h
theorem Gw (g : aF) (v : aZ) : DF (iB g) (um g v) g.Rect.X1 g.Rect.Y1 g.Rect.X2 g.Rect.Y2 (pZ g.Poly) (v.X, v.Y) = .tup [.agg (d5 (A7 g v).1), nS 55 (A7 g v).2] := by
 unfold A7
 cases iB g with
 | false => cases um g v <;> rfl
 | true =>
  cases um g v with
  | false => rfl
  | true =>
   cases g with
   | mk r l =>
    cases l with
    | nil => rfl
    | cons q t =>
     show AV.tup [.agg [.int .i64 0, .int .i64 0, .int .i64 0, .int .i64 0, .sl (rows ((pZ (q :: t)).map (mv (v.X, v.Y))))], .nilI] = _
     unfold rows pZ
     rw [List.map_map, List.map_map]
     simp only [cond_true, Cv, d5, List.map_map]
     rfl
def kQ (fu : Nat) (g : aF) : Option Bool := if g.Poly.length ≤ maxLen then some (iB g) else none
theorem un {fu : Nat} {g : aF} {r : Bool} (h : kQ fu g = some r) : ai Tryz.prog 43 [.agg (d5 g)] (· = .bool r) := by
 unfold kQ at h
 split at h
 ·
  rename_i hl
  cases h
  have := @y3 g.Rect.X1 g.Rect.Y1 g.Rect.X2 g.Rect.Y2 (pZ g.Poly) (by rw [jO]; exact hl)
  rw [ie] at this
  exact this
 · cases h
def fy (fu : Nat) (g : aF) : Option Bool := if g.Poly.length ≤ maxLen then some (iB g) else none
theorem mE {fu : Nat} {g : aF} {r : Bool} (h : fy fu g = some r) : ai Tryz.prog 53 [.agg (d5 g)] (· = .bool r) := by
 unfold fy at h
 split at h
 ·
  rename_i hl
  cases h
  have := @vB g.Rect.X1 g.Rect.Y1 g.Rect.X2 g.Rect.Y2 (pZ g.Poly) (by rw [jO]; exact hl)
  rw [ie] at this
  exact this
 · cases h
def lX (fu : Nat) (g : aF) (p : aZ) : Option Bool := if g.Poly.length ≤ maxLen then some (IO g p) else none
theorem wt {fu : Nat} {g : aF} {p : aZ} {r : Bool} (h : lX fu g p = some r) : ai Tryz.prog 61 [.agg (d5 g), .agg (aH p)] (· = .bool r) := by
 unfold lX at h
 split at h
 ·
  rename_i hl
  cases h
  have := @H8 g.Rect.X1 g.Rect.Y1 g.Rect.X2 g.Rect.Y2 (pZ g.Poly) (p.X, p.Y) (by rw [jO]; exact hl)
  rw [ie] at this
  exact this
 · cases h
def nJ (fu : Nat) (g : aF) (p : aZ) : Option Bool := if g.Poly.length ≤ maxLen then some (IO g p) else none
theorem xA {fu : Nat} {g : aF} {p : aZ} {r : Bool} (h : nJ fu g p = some r) : ai Tryz.prog 105 [.agg (d5 g), .agg (aH p)] (· = .bool r) := by
 unfold nJ at h
 split at h
 ·
  rename_i hl
  cases h
  have := @Gp g.Rect.X1 g.Rect.Y1 g.Rect.X2 g.Rect.Y2 (pZ g.Poly) (p.X, p.Y) (by rw [jO]; exact hl)
  rw [ie] at this
  exact this
 · cases h
def jQ (fu : Nat) (g : aF) (v : aZ) : Option (aF × Er) := if g.Poly.length ≤ maxLen then some (A7 g v) else none
theorem sv {fu : Nat} {g : aF} {v : aZ} {r : aF × Er} (h : jQ fu g v = some r) : ai Tryz.prog 49 [.agg (d5 g), .agg (aH v)] (· = .tup [.agg (d5 r.1), .err 55 r.2]) := by
 unfold jQ at h
 split at h
 ·
  rename_i hl
  cases h
  have := Fn (a := g.Rect.X1) (b := g.Rect.Y1) (c := g.Rect.X2) (d := g.Rect.Y2) (l := pZ g.Poly) (v := (v.X, v.Y)) (m := iB g) (ok := um g v) (by rw [jO]; exact hl) Z Z
  rw [ie, Gw] at this
  exact vp this
 · cases h
def g9 (fu : Nat) (s : Int) (g : aF) : Option (ba × Er) := if g.Poly.length ≤ maxLen then some (FK s g) else none
theorem Ha (s : Int) (g : aF) : BN (iB g && cD s) (I9 s g.Rect.X1 g.Rect.Y1 g.Rect.X2 g.Rect.Y2 (pZ g.Poly)) = .tup [.agg (nM (FK s g).1), nS 55 (FK s g).2] := by
 unfold FK
 cases iB g && cD s <;> rfl
theorem oB {fu : Nat} {s : Int} {g : aF} {r : ba × Er} (h : g9 fu s g = some r) : ai Tryz.prog 45 [.int .i64 s, .agg (d5 g)] (· = .tup [.agg (nM r.1), .err 55 r.2]) := by
 unfold g9 at h
 split at h
 ·
  rename_i hl
  cases h
  have := DU (s := s) (a := g.Rect.X1) (b := g.Rect.Y1) (c := g.Rect.X2) (d := g.Rect.Y2) (l := pZ g.Poly) (m := iB g) (q := cD s) (by rw [jO]; exact hl) Z Z
  rw [ie, Ha] at this
  exact vp this
 · cases h
def me (fu : Nat) (g : aF) (b : ba) (v : aZ) : Option Bool := if g.Poly.length ≤ maxLen then some (yu g b v) else none
theorem wj {fu : Nat} {g : aF} {b : ba} {v : aZ} {r : Bool} (h : me fu g b v = some r) : ai Tryz.prog 50 [.agg (d5 g), .agg (nM b), .agg (aH v)] (· = .bool r) := by
 unfold me at h
 split at h
 ·
  rename_i hl
  cases h
  have := GU (a := g.Rect.X1) (b := g.Rect.Y1) (c := g.Rect.X2) (d := g.Rect.Y2) (A := b.X1) (B := b.Y1) (C := b.X2) (D := b.Y2) (l := pZ g.Poly) (v := (v.X, v.Y)) (by rw [jO]; exact hl) Z Z Z
  rw [ie] at this
  exact this
 · cases h
def kO (fu : Nat) (g : aF) (b : ba) (v : aZ) : Option Bool := if g.Poly.length ≤ maxLen then some (yu g b v) else none
theorem uy {fu : Nat} {g : aF} {b : ba} {v : aZ} {r : Bool} (h : kO fu g b v = some r) : ai Tryz.prog 59 [.agg (d5 g), .agg (nM b), .agg (aH v)] (· = .bool r) := by
 unfold kO at h
 split at h
 ·
  rename_i hl
  cases h
  have := EN (a := g.Rect.X1) (b := g.Rect.Y1) (c := g.Rect.X2) (d := g.Rect.Y2) (A := b.X1) (B := b.Y1) (C := b.X2) (D := b.Y2) (l := pZ g.Poly) (v := (v.X, v.Y)) (by rw [jO]; exact hl) Z Z Z
  rw [ie] at this
  exact this
 · cases h
def gk (fu : Nat) (s : Int) (g : aF) : Option ba := if g.Poly.length ≤ maxLen ∧ iB g = true ∧ cD s = true then some (Cc s g) else none
theorem nh {fu : Nat} {s : Int} {g : aF} {r : ba} (h : gk fu s g = some r) : ai Tryz.prog 57 [.int .i64 s, .agg (d5 g)] (· = .agg (nM r)) := by
 unfold gk at h
 split at h
 ·
  rename_i hl
  cases h
  obtain ⟨k, rfl, hk⟩ := C2 hl.2.2
  have := @BI k g.Rect.X1 g.Rect.Y1 g.Rect.X2 g.Rect.Y2 (pZ g.Poly) (by rw [jO]; exact hl.1) hl.2.1 hk hl.2.2
  rw [ie] at this
  exact this
 · cases h
def kN (fu : Nat) (s1 : Int) : Option Bool :=
 bif (decide (s1 ≥ 24)) then some (decide (s1 ≤ 31)) else some false
section
attribute [local irreducible] cg aM DP ai aP Decidable.decide
theorem uo {fu : Nat} {s1 : Int} {r : Bool} (h : kN fu s1 = some r) : ai Tryz.prog 74 [.int .i64 s1] (· = .bool r) := by
 rw [kN] at h
 refine cf Tryz.func74 ?_
 refine ag (rv Z Z (rn (ag (rg 3 rfl (dN Z Z Z Z Z h (fun h_1 => ?_) fun h_1 => ?_)))))
 ·clear h
  exact rg 4 rfl (rn (aT (si h_1 ▸ rF)))
 clear h
 exact rg 3 rfl (rn (aT (si h_1 ▸ rF)))
def ip (fu : Nat) (s1 : Int) : Option Int :=
 (kN fu s1).bind fun x1 => bif (!x1) then some 0 else ((Gi .i64 2147483648 s1).bind fun q1 => some (W (q1 + 1)))
theorem tT {fu : Nat} {s1 : Int} {r : Int} (h : ip fu s1 = some r) : ai Tryz.prog 42 [.int .i64 s1] (· = .int .i64 r) := by
 rw [ip] at h
 refine cf Tryz.func42 ?_
 refine ag (rv Z Z (rn (aS (ag (rv Z Z (bx h fun x1 hx1 h_1 => bt Z Z Z (uo hx1) (rv Z Z (rn (bw rfl h_1 (fun h_2 => ?_) fun h_2 => ?_)))))))))
 ·clear h h_1
  exact ag (rv Z Z (rn (aT (si h_2 ▸ rF))))
 clear h h_1
 exact aK (ag (rv Z Z (bx h_2 fun q1 hx2 h_3 => rV rfl (Hp Z Z hx2) (rg 2 rfl (rn (aT (si h_3 ▸ rF)))))))
end
structure bf where
 Id : Int
 Version : Int
 Region : aF
 Filter : aY
 Cover : ba
def aU (x : bf) : List AV := [.int .i64 x.Id, .int .i64 x.Version, .int .i64 x.Region.Rect.X1, .int .i64 x.Region.Rect.Y1, .int .i64 x.Region.Rect.X2, .int .i64 x.Region.Rect.Y2, .sl (x.Region.Poly.map aH), .str (sB x.Filter), .int .i64 x.Cover.X1, .int .i64 x.Cover.Y1, .int .i64 x.Cover.X2, .int .i64 x.Cover.Y2]
structure aw where
 Sub : bf
 F : aa
def az (x : aw) : List AV := [.int .i64 x.Sub.Id, .int .i64 x.Sub.Version, .int .i64 x.Sub.Region.Rect.X1, .int .i64 x.Sub.Region.Rect.Y1, .int .i64 x.Sub.Region.Rect.X2, .int .i64 x.Sub.Region.Rect.Y2, .sl (x.Sub.Region.Poly.map aH), .str (sB x.Sub.Filter), .int .i64 x.Sub.Cover.X1, .int .i64 x.Sub.Cover.Y1, .int .i64 x.Sub.Cover.X2, .int .i64 x.Sub.Cover.Y2, .int .i64 x.F.Kind, .str (sB x.F.Name), .str (sB x.F.Op), .sl (x.F.Vals.map au), .sl (am x.F.L)]
structure eI where
 Pub : Int
 Seq : Int
 At : aZ
 Attrs : List aI
def sV (x : eI) : List AV := [.int .i64 x.Pub, .int .u32 x.Seq, .int .i64 x.At.X, .int .i64 x.At.Y, .sl (x.Attrs.map au)]
structure aC where
 Shift : Int
 Most : Int
 L : List (Int × aw)
 Last : List (Int × Int)
def dL (fu : Nat) (t1 : aC) (id1 : Int) : Option (bf × Er × aC) :=
 (yb t1.L id1 (aw.mk (bf.mk 0 0 (aF.mk (ba.mk 0 0 0 0) []) [] (ba.mk 0 0 0 0)) (aa.mk 0 [] [] [] []))).bind fun is1 => (some ((mg t1.L id1).isSome)).bind fun is2 => bif (!is2) then some ((bf.mk 0 0 (aF.mk (ba.mk 0 0 0 0) []) [] (ba.mk 0 0 0 0)), (some 9), t1) else ((Ji t1.L id1).bind fun m1 => (Et t1.Last id1 (W (is1.Sub.Version + 1))).bind fun m2 => some ((bf.mk is1.Sub.Id (W (is1.Sub.Version + 1)) is1.Sub.Region is1.Sub.Filter is1.Sub.Cover), none, (aC.mk t1.Shift t1.Most m1 m2)))
section
attribute [local irreducible] cg aM DP ai aP Decidable.decide
theorem nV {fu : Nat} {t1 : aC} {id1 : Int} {r : bf × Er × aC} (h : dL fu t1 id1 = some r) : aP Tryz.prog 15 3 [.ptr 0 0, .int .i64 id1] [(0, 0, .int .i64 t1.Shift), (0, 1, .int .i64 t1.Most), (0, 2, .own 1), (0, 3, .own 2)] [(1, bO (bj .i64) (fun x : aw => .agg (az x)) t1.L), (2, bO (bj .i64) (fun x : Int => .int .i64 x) t1.Last)] (fun r_ H_ O_ n_ => r_ = .tup [.agg [.int .i64 r.1.Id, .int .i64 r.1.Version, .int .i64 r.1.Region.Rect.X1, .int .i64 r.1.Region.Rect.Y1, .int .i64 r.1.Region.Rect.X2, .int .i64 r.1.Region.Rect.Y2, .sl (r.1.Region.Poly.map aH), .str (sB r.1.Filter), .int .i64 r.1.Cover.X1, .int .i64 r.1.Cover.Y1, .int .i64 r.1.Cover.X2, .int .i64 r.1.Cover.Y2], .err 55 r.2.1] ∧ H_ = [(0, 0, .int .i64 r.2.2.Shift), (0, 1, .int .i64 r.2.2.Most), (0, 2, .own 3), (0, 3, .own 4)] ∧ O_ = [(3, bO (bj .i64) (fun x : aw => .agg (az x)) r.2.2.L), (4, bO (bj .i64) (fun x : Int => .int .i64 x) r.2.2.Last)] ∧ n_ = 5) := by
 rw [dL] at h
 refine nO Tryz.func15 ?_
 refine aQ (fun _ _ _ _ _ hi => en (κ := (bj .i64)) (c := (fun x : aw => .agg (az x))) 0 2 1 Z Z hi) (aQ (fun _ _ _ _ _ hi => en (κ := (bj .i64)) (c := (fun x : Int => .int .i64 x)) 0 3 2 Z Z hi) (ag (ra Z Z Z (rv Z Z (rn (ag (rg 5 rfl (bx h fun is1 hx1 h_1 => rV rfl (jY (κ := (bj .i64)) (c := (fun x : aw => .agg (az x))) (b := t1.L) (kk := id1) (z := (aw.mk (bf.mk 0 0 (aF.mk (ba.mk 0 0 0 0) []) [] (ba.mk 0 0 0 0)) (aa.mk 0 [] [] [] []))) Z Z Z Z Z Z (by first | exact .inl (.inl rfl) | exact .inr ⟨_, _, rfl, rfl, by repeat (first | exact trivial | refine ⟨by first | exact .inl rfl | exact .inr (.inl ⟨rfl, rfl⟩) | exact .inr (.inr ⟨rfl, _, rfl⟩), ?_⟩)⟩) Z Z Z hx1) ?_))))))))
 refine rg 3 rfl (ra Z Z Z (rs Z Z Z Z Z Z Z (rv Z Z ?_)))
 obtain ⟨is2, hx2, h_2⟩ := bs h_1
 refine rt (xh hx2) (rn (aS (ag (rg 2 rfl (rn (bw rfl h_2 (fun h_3 => ?_) fun h_3 => ?_))))))
 ·clear h h_1 h_2
  refine ag (rg 2 rfl (rs Z Z Z Z Z Z Z (rv Z Z (rn (aQ (fun _ _ _ _ _ hi => dF 55 5 (some 9) rfl hi) (aT ?_))))))
  obtain rfl := si h_3
  refine rW ?_
  exact rA [0,1,2,3,4]
 clear h h_1 h_2
 refine aK (ag (rg 5 rfl (bx h_3 fun m1 hx3 h_4 => Iq (κ := (bj .i64)) (c := (fun x : aw => .agg (az x))) (b := t1.L) (kk := id1) Z Z Z Z Z Z Z Z Z (rk (congrArg (bO (bj .i64) (fun x : aw => .agg (az x))) (Jc hx3)) (rn (ag (rg 6 rfl (rs Z Z Z Z Z Z Z (rn (aS (mw 8 Tryz.mix (dv Z Z (fun _ => rfl) (dv Z Z (fun _ => rfl) (dv Z Z (fun _ => rfl) (dv Z Z (fun _ => rfl) (dv Z Z (fun _ => rfl) (dv Z Z (fun _ => rfl) (dv Z Z (fun _ => rfl) (dv Z Z (fun _ => rfl) (dn (bx h_4 fun m2 hx4 h_5 => xu (κ := (bj .i64)) (c := (fun x : Int => .int .i64 x)) (b := t1.Last) (kk := id1) (z := (W (is1.Sub.Version + 1))) Z Z Z Z Z Z Z Z Z (rk (congrArg (bO (bj .i64) (fun x : Int => .int .i64 x)) (CS hx4)) (rn (ag (rg 2 rfl (rs Z Z Z Z Z Z Z (rv Z Z (rn (aQ (fun _ _ _ _ _ hi => dF 55 5 none rfl hi) (aT ?_))))))))))))))))))))))))))))))
 obtain rfl := si h_5
 refine rW ?_
 exact rA [0,1,2,3,4]
def fZ (fu : Nat) (shift1 : Int) (most1 : Int) : Option ((Option aC) × Er) :=
 ((ip fu shift1).bind fun x2 => bif (x2 == 0) then some true else (bif (decide (most1 < 1)) then some true else some (decide (most1 > 1000))) : Option Bool).bind fun (x1 : Bool) => (bif x1 then some (none, (some 1)) else some ((some (aC.mk shift1 most1 [] [])), none))
theorem eE {fu : Nat} {shift1 : Int} {most1 : Int} {r : (Option aC) × Er} (h : fZ fu shift1 most1 = some r) : aP Tryz.prog 9 0 [.int .i64 shift1, .int .i64 most1] [] [] (fun r_ H_ O_ n_ => r_ = .tup [oP r.1 0, .err 55 r.2] ∧ H_ = oL r.1 (fun q => [(0, 0, .int .i64 q.Shift), (0, 1, .int .i64 q.Most), (0, 2, .own 1), (0, 3, .own 2)]) ∧ O_ = oL r.1 (fun q => [(1, bO (bj .i64) (fun x : aw => .agg (az x)) q.L), (2, bO (bj .i64) (fun x : Int => .int .i64 x) q.Last)]) ∧ n_ = oN r.1 0 3) := by
 rw [fZ] at h
 refine nO Tryz.func9 ?_
 refine ag (rg 2 rfl (rn (aS (aS (bx h fun o1 ho2 h_1 => aq (fun x => x = o1) (fun (x1 : Bool) => ⟨[(0, .int .i64 shift1), (1, .int .i64 most1), (16, .bool x1)], [], [], 0⟩) ?_ ?_)))))
 ·clear h
  refine aR (rv Z Z (bx ho2 fun x2 hx3 ho2_1 => bt Z Z Z (tT hx3) (rg 2 rfl (eN Z Z Z Z Z ho2_1 (fun ho2_2 => ?_) fun ho2_2 => ?_))))
  ·clear ho2 ho2_1
   refine rg 4 rfl (eN Z Z Z Z Z ho2_2 (fun ho2_3 => ?_) fun ho2_3 => ?_)
   ·clear ho2_2
    exact rg 3 rfl (rn (si ho2_3 ▸ cN []))
   clear ho2_2
   exact rg 2 rfl (rn (si ho2_3 ▸ cN []))
  clear ho2 ho2_1
  exact rg 6 rfl (rn (si ho2_2 ▸ cN []))
 clear h
 rintro x1 rfl
 refine ch (bw rfl h_1 (fun h_2 => ?_) fun h_2 => ?_)
 ·clear h_1
  refine ag (rg 3 rfl (rn (aQ (fun _ _ _ _ _ hi => dF 55 5 (some 1) rfl hi) (aT ?_))))
  obtain rfl := si h_2
  refine rW ?_
  exact rA []
 clear h_1
 refine aK (ag (rg 2 rfl (rN rfl (Ap (bj .i64) (fun x : aw => .agg (az x))) (rN rfl (Ap (bj .i64) (fun x : Int => .int .i64 x)) (rv Z Z (rb Z Z (rg 2 rfl (rn (aQ (fun _ _ _ _ _ hi => dF 55 5 none rfl hi) (aT ?_))))))))))
 obtain rfl := si h_2
 refine rW ?_
 exact rA [2,0,1]
end
def eP (fu : Nat) (b : (List aZ)) : Option (List aZ) := ap [] b
section
attribute [local irreducible] cg aM DP ai aP Decidable.decide
theorem mI {fu : Nat} {b r : (List aZ)} (h : eP fu b = some r) : ai Tryz.prog 82 [.sl (b.map aH)] (· = .sl (r.map aH)) := by
 rw [eP] at h
 have hx1 := h
 have hr : b = r := IW h
 refine tE Tryz.func82 rfl (by kernel_rfl) (by rfl) ?_
 refine mj ?_
 refine iM ?_
 refine rv Z Z ?_
 refine rn ?_
 refine ak ?_
 refine mj ?_
 refine mj ?_
 refine iM ?_
 refine rv Z Z ?_
 refine Jr Z Z Z Z (fun q hb => ?_)
 refine rn ?_
 refine ak ?_
 refine fB rfl (fun hc => ?_) (fun hc => ?_)
 ·
  refine mj ?_
  refine iM ?_
  refine rv Z Z ?_
  refine rn ?_
  refine ak ?_
  refine wZ ?_
  repeat (first | refine an ?_ | refine ac ?_)
  refine rr Z Z ?_
  have h0 := hb hc
  rw [← hr]; exact congrArg AV.sl h0.symm
 ·
  refine yx ?_
  refine ak ?_
  refine mj ?_
  refine iM ?_
  refine mz false Z Z Z Z Z Z Z Z Z Z ?_
  refine rv Z Z ?_
  refine pu false (xs := ([] : (List aZ)).map aH) (ys := b.map aH) Z Z Z Z Z Z Z (.own Z Z) (.sl Z Z Z) (wM (fun _ => by rfl) _) (oM (fun _ => by rfl) _) (wA aH rfl hx1) rfl ?_
  refine rk (congrArg (Kind.row _) (wR aH hx1)) ?_
  refine rv Z Z ?_
  refine rn ?_
  refine ak ?_
  refine wZ ?_
  repeat (first | refine an ?_ | refine ac ?_)
  exact rr Z Z Z
end
def dy (fu : Nat) (s1 : bf) : Option bf :=
 (eP fu s1.Region.Poly).bind fun x1 => some (bf.mk s1.Id s1.Version (aF.mk s1.Region.Rect x1) s1.Filter s1.Cover)
section
attribute [local irreducible] cg aM DP ai aP Decidable.decide
theorem fp {fu : Nat} {s1 : bf} {r : bf} (h : dy fu s1 = some r) : ai Tryz.prog 46 [.agg [.int .i64 s1.Id, .int .i64 s1.Version, .int .i64 s1.Region.Rect.X1, .int .i64 s1.Region.Rect.Y1, .int .i64 s1.Region.Rect.X2, .int .i64 s1.Region.Rect.Y2, .sl (s1.Region.Poly.map aH), .str (sB s1.Filter), .int .i64 s1.Cover.X1, .int .i64 s1.Cover.Y1, .int .i64 s1.Cover.X2, .int .i64 s1.Cover.Y2]] (· = .agg [.int .i64 r.Id, .int .i64 r.Version, .int .i64 r.Region.Rect.X1, .int .i64 r.Region.Rect.Y1, .int .i64 r.Region.Rect.X2, .int .i64 r.Region.Rect.Y2, .sl (r.Region.Poly.map aH), .str (sB r.Filter), .int .i64 r.Cover.X1, .int .i64 r.Cover.Y1, .int .i64 r.Cover.X2, .int .i64 r.Cover.Y2]) := by
 rw [dy] at h
 refine cf Tryz.func46 ?_
 exact ag (rb Z Z (ra Z Z Z (rn (ag (rg 3 rfl (bx h fun x1 hx1 h_1 => bt Z Z Z (mI hx1) (rg 2 rfl (rs Z Z Z Z Z Z Z (rn (ag (rv Z Z (rs Z Z Z Z Z Z Z (rn (aT (si h_1 ▸ rF)))))))))))))))
def eY (fu : Nat) (t1 : aC) (id1 : Int) : Option (bf × Bool × aC) :=
 (yb t1.L id1 (aw.mk (bf.mk 0 0 (aF.mk (ba.mk 0 0 0 0) []) [] (ba.mk 0 0 0 0)) (aa.mk 0 [] [] [] []))).bind fun is1 => (some ((mg t1.L id1).isSome)).bind fun is2 => (dy fu is1.Sub).bind fun x1 => some (x1, is2, t1)
theorem oR {fu : Nat} {t1 : aC} {id1 : Int} {r : bf × Bool × aC} (h : eY fu t1 id1 = some r) : aP Tryz.prog 27 3 [.ptr 0 0, .int .i64 id1] [(0, 0, .int .i64 t1.Shift), (0, 1, .int .i64 t1.Most), (0, 2, .own 1), (0, 3, .own 2)] [(1, bO (bj .i64) (fun x : aw => .agg (az x)) t1.L), (2, bO (bj .i64) (fun x : Int => .int .i64 x) t1.Last)] (fun r_ H_ O_ n_ => r_ = .tup [.agg [.int .i64 r.1.Id, .int .i64 r.1.Version, .int .i64 r.1.Region.Rect.X1, .int .i64 r.1.Region.Rect.Y1, .int .i64 r.1.Region.Rect.X2, .int .i64 r.1.Region.Rect.Y2, .sl (r.1.Region.Poly.map aH), .str (sB r.1.Filter), .int .i64 r.1.Cover.X1, .int .i64 r.1.Cover.Y1, .int .i64 r.1.Cover.X2, .int .i64 r.1.Cover.Y2], .bool r.2.1] ∧ H_ = [(0, 0, .int .i64 r.2.2.Shift), (0, 1, .int .i64 r.2.2.Most), (0, 2, .own 3), (0, 3, .own 4)] ∧ O_ = [(3, bO (bj .i64) (fun x : aw => .agg (az x)) r.2.2.L), (4, bO (bj .i64) (fun x : Int => .int .i64 x) r.2.2.Last)] ∧ n_ = 5) := by
 rw [eY] at h
 refine nO Tryz.func27 ?_
 refine aQ (fun _ _ _ _ _ hi => en (κ := (bj .i64)) (c := (fun x : aw => .agg (az x))) 0 2 1 Z Z hi) (aQ (fun _ _ _ _ _ hi => en (κ := (bj .i64)) (c := (fun x : Int => .int .i64 x)) 0 3 2 Z Z hi) (ag (ra Z Z Z (rv Z Z (rn (ag (rg 5 rfl (bx h fun is1 hx1 h_1 => rV rfl (jY (κ := (bj .i64)) (c := (fun x : aw => .agg (az x))) (b := t1.L) (kk := id1) (z := (aw.mk (bf.mk 0 0 (aF.mk (ba.mk 0 0 0 0) []) [] (ba.mk 0 0 0 0)) (aa.mk 0 [] [] [] []))) Z Z Z Z Z Z (by first | exact .inl (.inl rfl) | exact .inr ⟨_, _, rfl, rfl, by repeat (first | exact trivial | refine ⟨by first | exact .inl rfl | exact .inr (.inl ⟨rfl, rfl⟩) | exact .inr (.inr ⟨rfl, _, rfl⟩), ?_⟩)⟩) Z Z Z hx1) ?_))))))))
 refine rg 3 rfl (ra Z Z Z (rs Z Z Z Z Z Z Z (rv Z Z ?_)))
 obtain ⟨is2, hx2, h_2⟩ := bs h_1
 refine rt (xh hx2) (rn (ag (rg 2 rfl (bx h_2 fun x1 hx3 h_3 => bt Z Z Z (fp hx3) (rv Z Z (rs Z Z Z Z Z Z Z (rv Z Z (rn (aT ?_)))))))))
 obtain rfl := si h_3
 refine rW ?_
 exact rA [0,1,2,3,4]
end
end Go.Proofs.YtbkomicjhfldmaaGreatDoor
namespace Go.Pv
open Go.RowKit (Below)
open Go.MapKept (Stamped)
set_option linter.unusedSectionVars false
set_option linter.unusedVariables false
def tj (P : Program) (fK fS : FuncId) : Prop :=
 vC P fK = true ∧ vC P fS = true ∧ ∀ (w : World) (b : Nat) (es : Array MapEntry) (clock : Nat) (zs : List Int), w.heap[b]? = some (.map es clock) → Stamped es clock →
  es.toList.map (·.key) = zs.map (Value.int .i64) → (∀ z ∈ zs, (Lit.int .i64 z).wf = true) → zs.length ≤ 68719476736 →
  Calls P fK #[.map (some b)] w fun e w1 => ∃ fv, e = .returned fv ∧ Below w.heap.size w w1 ∧
   Calls P fS #[fv] w1 fun e w2 => ∃ (v : Value) (ss : List Int) (t : TypeId), e = .returned v ∧ ss.Perm zs ∧ w2.ownsRow w1.heap.size t 1 v ss.length ((ss.mergeSort fun x y => decide (x ≤ y)).map (Value.int .i64)) ∧ Below w1.heap.size w1 w2
def ksd {V : Type} (l : List (Int × V)) : Option (List Int) := if (l.all fun p => (Lit.int .i64 p.1).wf) = true ∧ l.length ≤ 68719476736 then some ((l.map (·.1)).mergeSort fun x y => decide (x ≤ y)) else none
theorem vi {l l' : List Int} (h : l.Perm l') : l.mergeSort (fun x y => decide (x ≤ y)) = l'.mergeSort fun x y => decide (x ≤ y) := by
 have tr : ∀ a b c : Int, decide (a ≤ b) = true → decide (b ≤ c) = true → decide (a ≤ c) = true := fun a b c h1 h2 => by simp only [decide_eq_true_eq] at *; exact Int.le_trans h1 h2
 have to : ∀ a b : Int, (decide (a ≤ b) || decide (b ≤ a)) = true := fun a b => by simp only [Bool.or_eq_true, decide_eq_true_eq]; exact Int.le_total a b
 refine List.Perm.eq_of_pairwise (le := fun a b => decide (a ≤ b) = true) (fun a b _ _ h1 h2 => ?_) (List.pairwise_mergeSort tr to l) (List.pairwise_mergeSort tr to l') (((List.mergeSort_perm l _).trans h).trans (List.mergeSort_perm l' _).symm)
 simp only [decide_eq_true_eq] at h1 h2
 exact Int.le_antisymm h1 h2
theorem pv {w : World} {top : Nat → Nat} {gb : Nat} : ∀ (zs : List Int) (o : Nat), (∀ j (h : j < zs.length), o + j < top gb ∧ w.cell? ⟨gb, o + j, none⟩ = some (.int .i64 zs[j])) → bk w top gb o (zs.map (cI .i64))
 | [], _, _ => trivial
 | z :: zs, o, h => by
  refine ⟨⟨⟨(h 0 (by simp)).1, _, (h 0 (by simp)).2, rfl⟩, trivial⟩, ?_⟩
  refine pv zs (o + 1) fun j hj => ?_
  have := h (j + 1) (by simpa using hj)
  rw [show o + (j + 1) = o + 1 + j by omega] at this
  simpa using this
section
variable {V : Type} {c : V → AV} {P : Program} [dI P] {N n0 : Nat} {Q : bY} {ops : Array Oper} {rest : List Oper} {σ : List (Nat × AV)} {H : List (Nat × Nat × AV)} {O : List (Nat × Kind)} {n k : Nat}
theorem J0 {d1 d2 : Nat} {f1 x : Operand} {ats1 ats2 : Array TypeId} {ty1 ty2 : TypeId} {pos1 pos2 : String} {af1 af2 : Array Edge} {fK fS : FuncId} {l : List (Int × V)} {y : List Int}
  (hd1 : Nat.blt d1 N = true) (hd2 : Nat.blt d2 N = true) (h1 : ev σ f1 = .fn fK []) (hx : ev σ x = .own k) (hO : dk O k = some (bO (bj .i64) c l)) (hks : tj P fK fS) (hy : ksd l = some y)
  (kk : aM P N n0 ops rest Q ⟨(d2, .sl (y.map (cI .i64))) :: (d1, .any) :: σ, H, O, n⟩) :
  aM P N n0 ops (⟨some d1, .call ⟨.value f1, #[x], ats1⟩, ty1, pos1, af1, none⟩ :: ⟨some d2, .call ⟨.value (.func fS), #[.tmp d1], ats2⟩, ty2, pos2, af2, none⟩ :: rest) Q ⟨σ, H, O, n⟩ := by
 intro w0 g0 a w g hi
 have hfr := bA hi.slots f1
 rw [show ev (St.mk σ H O n).σ f1 = _ from h1] at hfr
 obtain ⟨cs, hfe, hcs⟩ := hfr
 obtain rfl : cs = [] := hcs
 have r1 := bA hi.slots x
 rw [show ev (St.mk σ H O n).σ x = _ from hx] at r1
 obtain ⟨b, es, clock, q1, q2, q3, q4, q5, m, q6, q7⟩ := eG.1 (hi.owns.at hO)
 have e1 : g.own k = some (a.eval x) := r1
 rw [q1] at e1
 have e1 := (Ke e1).symm
 unfold ksd at hy
 split at hy
 ·
  rename_i hc
  obtain rfl := Ke hy
  obtain ⟨hwf, hlen⟩ := hc
  have hmk := pO q7
  obtain ⟨zs, hz1, hz2⟩ : ∃ zs : List Int, es.toList.map (·.key) = zs.map (Value.int .i64) ∧ zs.Perm (l.map (·.1)) := by
   have hp : (es.toList.map (·.key)).Perm ((l.map (·.1)).map (Value.int .i64)) := by
    have := (q6.symm.map (·.key))
    rw [hmk] at this
    simpa [List.map_map, Function.comp_def, bj] using this
   refine ⟨es.toList.map fun e => match e.key with | .int _ z => z | _ => 0, ?_, ?_⟩
   ·
    rw [List.map_map]
    refine List.map_congr_left fun e he => ?_
    obtain ⟨p, _, hp2, _⟩ := w9 q7 (q6.mem_iff.2 he)
    simp [hp2, bj]
   ·
    have := hp.map (fun v : Value => match v with | .int _ z => z | _ => (0 : Int))
    simpa [List.map_map, Function.comp_def] using this
  have hzw : ∀ z ∈ zs, (Lit.int .i64 z).wf = true := fun z hz => by
   have := hz2.mem_iff.1 hz
   obtain ⟨p, hp, rfl⟩ := List.mem_map.1 this
   exact List.all_eq_true.1 hwf p hp
  have hzl : zs.length ≤ 68719476736 := by rw [hz2.length_eq, List.length_map]; exact hlen
  have hcall := hks.2.2 w b es clock zs q4 q5 hz1 hzw hzl
  refine hZ rfl ?_
  have hrun : (execOp a.eval ⟨some d1, .call ⟨.value f1, #[x], ats1⟩, ty1, pos1, af1, none⟩).run P w = .ok (.enter fK #[.map (some b)]) w := by
   simp only [execOp, resolve, hfe, Deferred.ofValue, Sem.run_bind, Sem.run_pure, Result.andThen_ok, invoke]
   simp only [List.map_toArray, List.map_cons, List.map_nil, e1, Array.append_empty, Array.empty_append]
   exact ep hks.1 _ w
  simp only [Oper.wp, hrun, Oper.upon]
  refine hcall.mono ?_
  rintro e w1 ⟨fv, rfl, hb1, hcall2⟩
  have hp1 : PF w g.top w1 g.top := ⟨hb1, fun _ _ => rfl, fun b hb => hi.wf.topNew b (Nat.le_trans hb1.size hb)⟩
  obtain ⟨hi1, _⟩ := hi.called hp1
  have hi1' := hi1.put (d := some d1) (v := .any) (val := fv) trivial hd1
  have hlt1 : d1 < a.tmps.size := by rw [hi.size]; simpa using hd1
  have hev : (a.put (some d1) fv).eval (.tmp d1) = fv := by
   simp [Act.eval, Act.put, hlt1]
  refine hZ rfl ?_
  have hrun2 : (execOp (a.put (some d1) fv).eval ⟨some d2, .call ⟨.value (.func fS), #[.tmp d1], ats2⟩, ty2, pos2, af2, none⟩).run P w1 = .ok (.enter fS #[fv]) w1 := by
   simp only [execOp, resolve, Act.eval, Deferred.ofValue, Sem.run_bind, Sem.run_pure, Result.andThen_ok, invoke]
   have hev' : (a.put (some d1) fv).tmps.getD d1 undef = fv := hev
   simp only [List.map_toArray, List.map_cons, List.map_nil, Act.eval, hev', Array.append_empty, Array.empty_append]
   exact ep hks.2.1 _ w1
  simp only [Oper.wp, hrun2, Oper.upon]
  refine hcall2.mono ?_
  rintro e w2 ⟨v, ss, t, rfl, hperm, hrow, hb2⟩
  have hsl : ss.length = l.length := by rw [hperm.length_eq, hz2.length_eq, List.length_map]
  have hso : (ss.mergeSort fun x y => decide (x ≤ y)) = (l.map (·.1)).mergeSort fun x y => decide (x ≤ y) := vi (hperm.trans hz2)
  rw [hso] at hrow
  have hlm : ((l.map (·.1)).mergeSort fun x y => decide (x ≤ y)).length = ss.length := by simp [hsl]
  generalize ((l.map (·.1)).mergeSort fun x y => decide (x ≤ y)) = ys at hrow hlm kk
  obtain ⟨hl1, hrow⟩ := hrow
  rcases hrow with ⟨rfl, hn0⟩ | ⟨gb, cap, cur, rfl, hgb, hblk, hn, hcap, hcs, htk⟩
  ·
   have hp2 : PF w1 g.top w2 g.top := ⟨hb2, fun _ _ => rfl, fun b hb => hp1.new b (Nat.le_trans hb2.size hb)⟩
   obtain ⟨hi2, _⟩ := hi1'.called hp2
   refine kk w0 g0 _ w2 _ (hi2.put (d := some d2) (v := .sl (ys.map (cI .i64))) ?_ hd2)
   have : ys = [] := List.eq_nil_of_length_eq_zero (by omega)
   subst this
   exact ⟨none, 0, rfl, Nat.le_refl _, fun _ => rfl, fun ad h => by cases h⟩
  ·
   have hgl : gb < w2.heap.size := (Array.getElem?_eq_some_iff.1 hblk).1
   let top2 : Nat → Nat := fun b => if b = gb then ys.length else g.top b
   have hp2 : PF w1 g.top w2 top2 := ⟨hb2, fun b hb => by simp only [top2]; rw [if_neg (by omega)], fun b hb => by
    simp only [top2]; rw [if_neg (by omega)]; exact hp1.new b (Nat.le_trans hb2.size hb)⟩
   obtain ⟨hi2, _⟩ := hi1'.called hp2
   refine kk w0 g0 _ w2 _ (hi2.put (d := some d2) (v := .sl (ys.map (cI .i64))) ?_ hd2)
   refine ⟨some ⟨gb, 0, none⟩, cap, by rw [List.length_map, hlm], by rw [List.length_map, hlm]; exact hn, (fun h => by cases h), fun ad h => ?_⟩
   obtain rfl := Ke h
   refine ⟨fun _ => rfl, pv ys 0 fun j hj => ?_⟩
   refine ⟨by show 0 + j < top2 gb; simp only [top2, if_true]; omega, ?_⟩
   have hj2 : j < cur.size := by rw [hcs]; omega
   have h3 : (cur.toList.take (ss.length * 1))[j]? = (ys.map (Value.int .i64))[j]? := by rw [htk]
   rw [List.getElem?_take_of_lt (by omega)] at h3
   simp only [World.cell?, hblk, Nat.zero_add, Option.isSome_none, Bool.false_eq_true, if_false]
   rw [← Array.getElem?_toList, h3]
   simp [hj]
 · cases hy
end
end Go.Pv
