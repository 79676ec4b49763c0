/- Layer 7, plainly: a filter's text cuts into its tokens. -/
import Derived.Test.YtaekecbadkcggaaDoorE07k
import Derived.Test.YtaekecbadkcggaaDoorE07s
import Derived.Test.YtaekecbadkcggaaDoorE07p
namespace Go.Proofs.YtaekecbadkcggaaDoor
open Go.Pv
set_option linter.unusedSimpArgs false
set_option linter.unusedVariables false
set_option linter.unusedSectionVars false
set_option maxRecDepth 100000

def wT (s : Str) : ttokenToken := ⟨2, 0, 0, s⟩
def sT (s : Str) : ttokenToken := ⟨5, 0, 0, s⟩
def nT (s : Str) : ttokenToken := ⟨1, 0, 0, s⟩
def joinT (w : ttokenToken) : List TL → TL
  | [] => []
  | [x] => x
  | x :: y :: l => x ++ ([w] ++ joinT w (y :: l))
def parT (b : Bool) (s : TL) : TL := if b then [sT [40]] ++ (s ++ [sT [41]]) else s
def tokV : List tAttr → TL
  | [] => []
  | v :: _ => [vT v]
mutual
def tokF : tFilter → TL
  | .mk k nm op v l => if k = 1 then joinT (wT [97, 110, 100]) (tokL l) else if k = 2 then joinT (wT [111, 114]) (tokL l) else if k = 3 then tokN l
    else if k = 4 then [nT nm] ++ ([sT op] ++ tokV v) else if k = 5 then [nT nm] ++ ([sT [94, 61]] ++ tokV v)
    else if k = 6 then [nT nm] ++ ([wT [105, 110], sT [40]] ++ (joinT (sT [44]) (v.map fun a => [vT a]) ++ [sT [41]])) else [wT [116, 114, 117, 101]]
def tokN : List tFilter → TL
  | [] => []
  | x :: _ => [wT [110, 111, 116]] ++ parT (kindF x != 7 && kindF x != 3) (tokF x)
def tokL : List tFilter → List TL
  | [] => []
  | x :: l => parT (kindF x == 1 || kindF x == 2) (tokF x) :: tokL l
end
inductive LXL : List Str → List TL → Prop
  | nil : LXL [] []
  | cons {s : Str} {t : TL} {ss : List Str} {ts : List TL} : LX false s t → LXL ss ts → LXL (s :: ss) (t :: ts)
theorem lx_join {c : UInt8} {σ : Str} {w : ttokenToken} (hc : c = 32 ∨ c = 41 ∨ c = 44) (hσ : LX true (c :: σ) [w]) : ∀ {ss : List Str} {ts : List TL}, LXL ss ts → LX false (joinS (c :: σ) ss) (joinT w ts)
  | _, _, .nil => LX.nil.weak
  | _, _, .cons h .nil => h
  | _, _, .cons h (.cons h2 h3) => by
    rw [joinS, joinT]
    exact h.app_w (hσ.app (lx_join hc hσ (.cons h2 h3)) (.inl rfl)) hc
theorem lx_par {b : Bool} {s : Str} {t : TL} (h : LX false s t) : LX false (par b s) (parT b t) := by
  unfold par parT
  cases b with
  | false => exact h
  | true => exact lx_open.app (h.app lx_close (.inr fun rest _ => sep_cons (by decide))).weak (.inl rfl)
theorem lx_and : LX true [32, 97, 110, 100, 32] [wT [97, 110, 100]] :=
  (lx_sp.app ((lx_word (c := 97) (t := [110, 100]) rfl (by decide) (by decide)).app lx_sp (.inr fun rest _ => sep_cons (by decide))) (.inl rfl))
theorem lx_or : LX true [32, 111, 114, 32] [wT [111, 114]] :=
  (lx_sp.app ((lx_word (c := 111) (t := [114]) rfl (by decide) (by decide)).app lx_sp (.inr fun rest _ => sep_cons (by decide))) (.inl rfl))
theorem lx_not : LX true [110, 111, 116, 32] [wT [110, 111, 116]] :=
  ((lx_word (c := 110) (t := [111, 116]) rfl (by decide) (by decide)).app lx_sp (.inr fun rest _ => sep_cons (by decide)))
theorem lx_in : LX true [32, 105, 110, 32, 40] [wT [105, 110], sT [40]] :=
  (lx_sp.app ((lx_word (c := 105) (t := [110]) rfl (by decide) (by decide)).app (lx_sp.app lx_open (.inl rfl)) (.inr fun rest _ => sep_cons (by decide))) (.inl rfl))
theorem lx_pre : LX true [32, 94, 61, 32] [sT [94, 61]] :=
  (lx_sp.app ((lx_op2 (c := 94) (by decide)).app lx_sp (.inl rfl)) (.inl rfl))
theorem lx_com : LX true [44, 32] [sT [44]] := lx_comma.app lx_sp (.inl rfl)
theorem lx_true : LX false [116, 114, 117, 101] [wT [116, 114, 117, 101]] := lx_word (c := 116) (t := [114, 117, 101]) rfl (by decide) (by decide)
/-- What is known of a leaf. -/
theorem leafB_kind {k : Int} {nm op : Str} {v : List tAttr} {l : List tFilter} (h : leafB k nm op v l = true) : nameB nm = true ∧ l = [] ∧ ∃ a r, v = a :: r ∧ (∀ x ∈ a :: r, valB a.Text x = true) ∧
    (k = 4 → r = [] ∧ opsL.contains op = true) ∧ (k = 5 → r = [] ∧ a.Text = true ∧ op = []) ∧ (k = 6 → op = []) := by
  unfold leafB at h
  simp only [Bool.and_eq_true] at h
  obtain ⟨h1, h2, h3⟩ := h
  cases v with
  | nil => cases h3
  | cons a r =>
    simp only [Bool.and_eq_true] at h3
    obtain ⟨h4, h5⟩ := h3
    refine ⟨h1, by simpa using h2, a, r, rfl, fun x hx => List.all_eq_true.1 h4 x hx, ?_, ?_, ?_⟩
    · rintro rfl
      simp only [show ((4 : Int) == 4) = true from rfl, cond_true, Bool.and_eq_true] at h5
      exact ⟨by simpa using h5.1, h5.2⟩
    · rintro rfl
      simp only [show ((5 : Int) == 4) = false from rfl, show ((5 : Int) == 5) = true from rfl, cond_true, cond_false, Bool.and_eq_true] at h5
      exact ⟨by simpa using h5.1, h5.2.1, by simpa using h5.2.2⟩
    · rintro rfl
      simp only [show ((6 : Int) == 4) = false from rfl, show ((6 : Int) == 5) = false from rfl, cond_true, cond_false, Bool.and_eq_true] at h5
      simpa using h5.2
theorem lx_vals {t0 : Bool} : ∀ (v : List tAttr), (∀ x ∈ v, valB t0 x = true) → (∀ x ∈ v, okI .i64 x.N) → LXL (v.map valS) (v.map fun a => [vT a])
  | [], _, _ => .nil
  | a :: v, h, k => .cons (lx_val (h a (by simp)) (okI64 (k a (by simp))).1 (okI64 (k a (by simp))).2) (lx_vals v (fun x hx => h x (List.mem_cons_of_mem _ hx)) (fun x hx => k x (List.mem_cons_of_mem _ hx)))
mutual
theorem lxF : ∀ f : tFilter, ok_tFilter f → fineF f = true → LX false (showF f) (tokF f)
  | .mk k nm op v l, hf, h => by
    have hOA := okA_mem hf
    have h3 := (okF_mk hf).2.2
    rw [showF, tokF]
    rcases fine_parts h with ⟨hk, hl⟩ | ⟨hk, -, -, -, hl, hk2⟩
    · obtain ⟨hn, rfl, a, r, rfl, hv, h4, h5, h6⟩ := leafB_kind hl
      have hva := lx_val (hv a (by simp)) (okI64 (hOA a (by simp))).1 (okI64 (hOA a (by simp))).2
      rcases hk with rfl | rfl | rfl
      · obtain ⟨rfl, ho⟩ := h4 rfl
        rw [if_neg (by decide), if_neg (by decide), if_neg (by decide), if_pos rfl, if_neg (by decide), if_neg (by decide), if_neg (by decide), if_pos rfl]
        simp only [showV, tokV]
        have hs : LX false (32 :: valS a) ([] ++ [vT a]) := lx_sp.app hva (.inl rfl)
        have ho2 : LX false (op ++ 32 :: valS a) ([sT op] ++ ([] ++ [vT a])) := (lx_op ho).app_w hs (by decide)
        have ho3 : LX false (32 :: (op ++ 32 :: valS a)) ([] ++ ([sT op] ++ ([] ++ [vT a]))) := lx_sp.app ho2 (.inl rfl)
        exact (lx_name hn).app_w ho3 (by decide)
      · obtain ⟨rfl, hT, rfl⟩ := h5 rfl
        rw [if_neg (by decide), if_neg (by decide), if_neg (by decide), if_neg (by decide), if_pos rfl, if_neg (by decide), if_neg (by decide), if_neg (by decide), if_neg (by decide), if_pos rfl]
        simp only [showV, tokV]
        exact (lx_name hn).app_w (lx_pre.app hva (.inl rfl)) (by decide)
      · obtain rfl := h6 rfl
        rw [if_neg (by decide), if_neg (by decide), if_neg (by decide), if_neg (by decide), if_neg (by decide), if_pos rfl, if_neg (by decide), if_neg (by decide), if_neg (by decide), if_neg (by decide), if_neg (by decide), if_pos rfl]
        have hj := lx_join (c := 44) (σ := [32]) (by decide) lx_com (lx_vals (a :: r) hv hOA)
        have e : showL [] ++ (a :: r).map valS = (a :: r).map valS := by rw [showL]; rfl
        rw [e]
        exact (lx_name hn).app_w (lx_in.app (hj.app_w lx_close (by decide)).weak (.inl rfl)) (by decide)
    · have hLX := lxL l (oks_mem h3) (fineL_mem hl)
      rcases hk2 with ⟨rfl | rfl, h2⟩ | ⟨rfl, h2⟩ | ⟨rfl, h2⟩
      · rw [if_pos rfl, if_pos rfl]
        exact lx_join (by decide) lx_and hLX
      · rw [if_neg (by decide), if_pos rfl, if_neg (by decide), if_pos rfl]
        exact lx_join (by decide) lx_or hLX
      · rw [if_neg (by decide), if_neg (by decide), if_pos rfl, if_neg (by decide), if_neg (by decide), if_pos rfl]
        cases l with
        | nil => simp at h2
        | cons x l =>
          rw [showN, tokN]
          have hx := lxF x (oks_mem h3 x (by simp)) (fineL_mem hl x (by simp))
          exact lx_not.app (lx_par hx) (.inl rfl)
      · rw [if_neg (by decide), if_neg (by decide), if_neg (by decide), if_neg (by decide), if_neg (by decide), if_neg (by decide), if_neg (by decide), if_neg (by decide), if_neg (by decide), if_neg (by decide), if_neg (by decide), if_neg (by decide)]
        exact lx_true
theorem lxL : ∀ l : List tFilter, (∀ x ∈ l, ok_tFilter x) → (∀ x ∈ l, fineF x = true) → LXL (showL l) (tokL l)
  | [], _, _ => by rw [showL, tokL]; exact .nil
  | x :: l, h, k => by
    rw [showL, tokL]
    exact .cons (lx_par (lxF x (h x (by simp)) (k x (by simp)))) (lxL l (fun y hy => h y (List.mem_cons_of_mem _ hy)) (fun y hy => k y (List.mem_cons_of_mem _ hy)))
end
theorem show_toks {f : tFilter} (hf : ok_tFilter f) (h : fineF f = true) : ∃ L, toks 0 (showF f) = some L ∧ L.map strip = tokF f := by
  obtain ⟨a', L1, e1, e2⟩ := lxF f hf h [] 0 (.inr fun c t e => by cases e)
  rw [List.append_nil, toks_nil] at e2
  exact ⟨L1, by simpa using e2, e1⟩
end Go.Proofs.YtaekecbadkcggaaDoor
