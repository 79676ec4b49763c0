/- Plain functions, and walks, printed by a program of this session's. -/
import Derived.Test.YtaekecbadkcggaaDoorPwE
import Derived.Test.YtaekecbadkcggaaDoorPvT
namespace Go.Proofs.YtaekecbadkcggaaDoor
open Go.Pv
set_option maxRecDepth 100000
set_option maxHeartbeats 4000000
set_option linter.unusedSimpArgs false
set_option linter.unusedVariables false
set_option linter.unusedSectionVars false

structure tAttr where
  Name : Str
  Text : Bool
  N : Int
  S : Str
def c_tAttr (x : tAttr) : List AV := [.str (sB x.Name), .bool x.Text, .int .i64 x.N, .str (sB x.S)]
inductive tFilter where
  | mk (Kind : Int) (Name : Str) (Op : Str) (Vals : List tAttr) (L : List tFilter)
mutual
def c_tFilter : tFilter → List AV
  | .mk Kind Name Op Vals L => [.int .i64 Kind, .str (sB Name), .str (sB Op), .sl (Vals.map c_tAttr), .sl (cs_tFilter L)]
def cs_tFilter : List tFilter → List (List AV)
  | [] => []
  | x :: l => c_tFilter x :: cs_tFilter l
end
theorem cs_tFilter_eq : ∀ l : List tFilter, cs_tFilter l = l.map c_tFilter
  | [] => rfl
  | x :: l => by rw [cs_tFilter, cs_tFilter_eq l]; rfl
theorem clen_tFilter (x : tFilter) : (c_tFilter x).length = 5 := by cases x; rfl
theorem cone_tFilter (x : tFilter) : (c_tFilter x).all AV.one = true := by cases x; rfl
theorem clim_tFilter (x : tFilter) : limL 0 (c_tFilter x) = true := by cases x; rfl
theorem giM_tFilter {l : List tFilter} {i : Int} {x : tFilter} (h : gi l i = some x) : (cs_tFilter l)[i.toNat]? = some (c_tFilter x) := by rw [cs_tFilter_eq]; exact giM _ h
theorem lM_tFilter (l : List tFilter) : AV.int .i64 (((cs_tFilter l).length : Nat) : Int) = .int .i64 (l.length : Int) := by rw [cs_tFilter_eq]; exact lM _ l
theorem wM_tFilter (l : List tFilter) : Wide 5 (cs_tFilter l) := by rw [cs_tFilter_eq]; exact wM clen_tFilter l
theorem oM_tFilter (l : List tFilter) : Ones (cs_tFilter l) := by rw [cs_tFilter_eq]; exact oM cone_tFilter l
theorem apM_tFilter {a b y : List tFilter} (h : ap a b = some y) : cs_tFilter a ++ cs_tFilter b = cs_tFilter y := by rw [cs_tFilter_eq, cs_tFilter_eq, cs_tFilter_eq]; exact apM _ h
theorem apB_tFilter {a b y : List tFilter} {k : Nat} (hk : Nat.ble k 2048 = true) (h : ap a b = some y) : ((cs_tFilter a).length + (cs_tFilter b).length) * k ≤ 140737488355328 := by rw [cs_tFilter_eq, cs_tFilter_eq]; exact apB _ hk h
theorem drM_tFilter {l y : List tFilter} {lo : Int} (h : gsl l lo l.length = some y) : (cs_tFilter l).drop lo.toNat = cs_tFilter y := by rw [cs_tFilter_eq, cs_tFilter_eq]; exact drM _ h
theorem drL_tFilter {l y : List tFilter} {lo : Int} (h : gsl l lo l.length = some y) : lo.toNat ≤ (cs_tFilter l).length := by rw [cs_tFilter_eq]; exact drL c_tFilter h
def ok_tAttr (x : tAttr) : Prop := okS x.Name ∧ (fun _ => True) x.Text ∧ okI .i64 x.N ∧ okS x.S
theorem dat_tAttr {n : Nat} {cs : List AV} (h : Dat Tryd.prog n 62 cs) : ∃ a : tAttr, cs = c_tAttr a ∧ ok_tAttr a := by
  obtain ⟨m, rfl, h⟩ := dat_struct (i := Tryd.i62) rfl rfl h
  obtain ⟨a0, r0, rfl, _, h0, h⟩ := h
  obtain ⟨a1, r1, rfl, _, h1, h⟩ := h
  obtain ⟨a2, r2, rfl, _, h2, h⟩ := h
  obtain ⟨a3, r3, rfl, _, h3, h⟩ := h
  obtain rfl : r3 = [] := h
  obtain ⟨x0, rfl, k0⟩ := dat_Str (i := Tryd.i9) rfl rfl h0
  obtain ⟨x1, rfl, k1⟩ := dat_Bool (i := Tryd.i4) rfl rfl h1
  obtain ⟨x2, rfl, k2⟩ := dat_Int (i := Tryd.i2) rfl rfl h2
  obtain ⟨x3, rfl, k3⟩ := dat_Str (i := Tryd.i9) rfl rfl h3
  exact ⟨⟨x0, x1, x2, x3⟩, rfl, k0, k1, k2, k3⟩
theorem datV_tAttr {x : AV} (h : DatV Tryd.prog 62 x) : ∃ a : tAttr, x = .agg (c_tAttr a) ∧ ok_tAttr a := by
  obtain ⟨n, cs, rfl, h2⟩ := datV_s (i := Tryd.i62) rfl rfl h
  obtain ⟨a, rfl, k⟩ := dat_tAttr h2
  exact ⟨a, rfl, k⟩
mutual
def ok_tFilter : tFilter → Prop
  | .mk x0 x1 x2 x3 x4 => okI .i64 x0 ∧ okS x1 ∧ okS x2 ∧ okLs (ok_tAttr) x3 ∧ (x4.length ≤ maxLen ∧ oks_tFilter x4)
def oks_tFilter : List tFilter → Prop
  | [] => True
  | x :: l => ok_tFilter x ∧ oks_tFilter l
end
theorem dat_tFilter {n : Nat} {cs : List AV} (h : Dat Tryd.prog n 40 cs) : ∃ a : tFilter, cs = c_tFilter a ∧ ok_tFilter a := by
  obtain ⟨m, rfl, h⟩ := dat_struct (i := Tryd.i40) rfl rfl h
  obtain ⟨a0, r0, rfl, _, h0, h⟩ := h
  obtain ⟨a1, r1, rfl, _, h1, h⟩ := h
  obtain ⟨a2, r2, rfl, _, h2, h⟩ := h
  obtain ⟨a3, r3, rfl, _, h3, h⟩ := h
  obtain ⟨a4, r4, rfl, _, h4, h⟩ := h
  obtain rfl : r4 = [] := h
  obtain ⟨x0, rfl, k0⟩ := dat_Int (i := Tryd.i3) rfl rfl h0
  obtain ⟨x1, rfl, k1⟩ := dat_Str (i := Tryd.i9) rfl rfl h1
  obtain ⟨x2, rfl, k2⟩ := dat_Str (i := Tryd.i9) rfl rfl h2
  obtain ⟨x3, rfl, k3⟩ := dat_List (c := c_tAttr) (Q := ok_tAttr) (i := Tryd.i37) rfl rfl (fun _ _ h => dat_tAttr h) h3
  cases m with
  | zero => cases h4
  | succ m =>
    obtain ⟨xs, rfl, q4, hx⟩ := dat_slice (i := Tryd.i38) rfl rfl h4
    obtain ⟨x4, rfl, e4, k4⟩ := rows_rec (c := c_tFilter) (cs := cs_tFilter) rfl (fun _ _ => rfl) (Q := ok_tFilter) (Qs := oks_tFilter) trivial (fun _ _ a b => ⟨a, b⟩) xs fun r hr => dat_tFilter (hx r hr)
    exact ⟨.mk x0 x1 x2 x3 x4, rfl, k0, k1, k2, k3, ⟨by rw [e4]; exact q4, k4⟩⟩
termination_by n
theorem datV_tFilter {x : AV} (h : DatV Tryd.prog 40 x) : ∃ a : tFilter, x = .agg (c_tFilter a) ∧ ok_tFilter a := by
  obtain ⟨n, cs, rfl, h2⟩ := datV_s (i := Tryd.i40) rfl rfl h
  obtain ⟨a, rfl, k⟩ := dat_tFilter h2
  exact ⟨a, rfl, k⟩
end Go.Proofs.YtaekecbadkcggaaDoor
