/- Structs of whole numbers among the arguments; and a law's row, made of what its walk shows. -/
import Derived.Test.YtngeejjllgnpcaaPvN
namespace Go.Pv
set_option linter.unusedSimpArgs false
set_option linter.unusedSectionVars false
set_option linter.unusedVariables false

section
variable {P : Program} [Tab P]

def isI (P : Program) [Tab P] (t : TypeId) : Bool := match ti P t with
  | some j => match j.k with
    | .int .i64 => true
    | _ => false
  | none => false

theorem dat_int {n : Nat} {t : TypeId} {k : IntKind} {i : TI} {cs : List AV} (hi : ti P t = some i) (hk : i.k = .int k) (h : Dat P n t cs) : ∃ z, cs = [.int k z] ∧ (Lit.int k z).wf = true := by
  cases n with
  | zero => exact h.elim
  | succ n => simpa only [Dat, hi, hk] using h

theorem dat_isI {n : Nat} {t : TypeId} {cs : List AV} (hi : isI P t = true) (h : Dat P n t cs) : ∃ z, cs = [.int .i64 z] ∧ (Lit.int .i64 z).wf = true := by
  unfold isI at hi
  cases ht : ti P t with
  | none => simp [ht] at hi
  | some j =>
    simp only [ht] at hi
    split at hi
    · rename_i hk; exact dat_int ht hk h
    · cases hi

theorem datF_ints {n : Nat} : ∀ {fs : List (Nat × TypeId)} {cs : List AV}, fs.all (fun p => isI P p.2) = true → DatF P (Dat P n) fs cs → ∃ zs : List Int, zs.length = fs.length ∧ cs = zs.map (AV.int .i64) ∧ ∀ z ∈ zs, (Lit.int .i64 z).wf = true
  | [], cs, _, h => ⟨[], rfl, h, by simp⟩
  | (o, t) :: r, cs, hf, h => by
    simp only [List.all_cons, Bool.and_eq_true] at hf
    obtain ⟨a, b, rfl, _, ha, hb⟩ := h
    obtain ⟨z, rfl, hz⟩ := dat_isI hf.1 ha
    obtain ⟨zs, h1, rfl, h3⟩ := datF_ints hf.2 hb
    exact ⟨z :: zs, by simp [h1], rfl, fun y hy => by rcases List.mem_cons.1 hy with rfl | hy; exact hz; exact h3 y hy⟩

theorem dat_ints {n : Nat} {t : TypeId} {i : TI} {q : Bool} {fs : List (Nat × TypeId)} {cs : List AV} (hi : ti P t = some i) (hk : i.k = .struct q fs) (hf : fs.all (fun p => isI P p.2) = true) (h : Dat P n t cs) :
    ∃ zs : List Int, zs.length = fs.length ∧ cs = zs.map (AV.int .i64) ∧ ∀ z ∈ zs, (Lit.int .i64 z).wf = true := by
  cases n with
  | zero => exact h.elim
  | succ n =>
    simp only [Dat, hi, hk] at h
    exact datF_ints hf h

theorem datV_ints {t : TypeId} {i : TI} {q : Bool} {fs : List (Nat × TypeId)} {x : AV} (hi : ti P t = some i) (hk : i.k = .struct q fs) (hf : fs.all (fun p => isI P p.2) = true) (h : DatV P t x) :
    ∃ zs : List Int, zs.length = fs.length ∧ x = .agg (zs.map (AV.int .i64)) ∧ ∀ z ∈ zs, (Lit.int .i64 z).wf = true := by
  obtain ⟨n, h⟩ := h
  simp only [hi, hk] at h
  obtain ⟨cs, rfl, h⟩ := h
  obtain ⟨zs, h1, rfl, h3⟩ := dat_ints hi hk hf h
  exact ⟨zs, h1, rfl, h3⟩

theorem datV_int {t : TypeId} {i : TI} {k : IntKind} {x : AV} (hi : ti P t = some i) (hk : i.k = .int k) (h : DatV P t x) : ∃ z, x = .int k z ∧ (Lit.int k z).wf = true := by
  obtain ⟨n, h⟩ := h
  simp only [hi, hk] at h
  obtain ⟨z, h1, h2⟩ := dat_int hi hk h
  exact ⟨z, by simpa using h1, h2⟩

theorem datVs2 {t : TypeId} {ts : List TypeId} {xs : List AV} (h : DatVs P (t :: ts) xs) : ∃ x r, xs = x :: r ∧ DatV P t x ∧ DatVs P ts r := by
  cases xs with
  | nil => exact h.elim
  | cons x r => exact ⟨x, r, rfl, h.1, h.2⟩

theorem datVs0 {xs : List AV} (h : DatVs P [] xs) : xs = [] := by
  cases xs with
  | nil => rfl
  | cons x r => exact h.elim

theorem len2 {zs : List Int} (h : zs.length = 2) : ∃ a b, zs = [a, b] := by
  match zs, h with
  | [a, b], _ => exact ⟨a, b, rfl⟩

theorem len4 {zs : List Int} (h : zs.length = 4) : ∃ a b c d, zs = [a, b, c, d] := by
  match zs, h with
  | [a, b, c, d], _ => exact ⟨a, b, c, d, rfl⟩

def readOk (P : Program) (S ts : List TypeId) : Bool := ts.all fun t => P.readableRec t && Nat.blt t P.types.size && S.contains t

theorem law_row {H : Type} {enc : TypeId × Value → H} {k : FuncId} {f : Func} {s : ChangeSpec} {W : World} {base' : Nat} {args : Array Value} {ds gs : List (DataW H)} {before : List MemPlace} (S : List TypeId) (ts : List TypeId) (tb : TypeId)
    (hts : f.params.toList = ts) (hl : laidOutB P = true) (hr : readOk P S ts = true) (hS : supS P S = true) (hres : f.resultTypes = #[tb]) (htb : P.underlying tb = some .bool) (hvars : s.vars = [])
    (hfn : ∀ ds : List (DataW H), ds.length = ts.length → s.fn H ds = { results := [.lit (.bool true)], args := ds })
    (call : ∀ xs, DatVs P ts xs → PCall P k xs (· = .bool true))
    (hval : ∀ (j : Nat) t v, f.params[j]? = some t → args[j]? = some v → Value.okWide P W .any base' t v)
    (hW : DataW.Whole enc P f.params.toList s.vars false W args.toList ds gs before) :
    Calls P k args W fun e W' => ∃ v, e = .returned v ∧ s.post enc P f false true false false W args v W' := by
  unfold readOk at hr
  rw [List.all_eq_true] at hr
  refine law_calls (S := S) (tb := tb) hl ?_ hS ?_ hres htb hvars ?_ ?_ hval hW
  · intro t ht
    rw [hts] at ht
    have := hr t ht
    simp only [Bool.and_eq_true] at this
    exact ⟨this.1.1, by simpa using this.1.2⟩
  · intro t ht
    rw [hts] at ht
    have := hr t ht
    simp only [Bool.and_eq_true] at this
    have h2 := this.2
    rw [List.contains_eq_mem] at h2
    simpa using h2
  · rw [hts]; exact hfn
  · rw [hts]; exact call

end
end Go.Pv
