/- The texts of a proof, put together by a program of this session's. -/
import Derived.Shelf.Strconv.ParseIntPublic10
import Derived.Lib.AtoiErrMem
import Derived.Test.YtbkomicjhfldmaaGreatDoorM6
namespace Go.Proofs.YtbkomicjhfldmaaGreatDoor
open Go.Pv
open Go.RowKit (Below)
set_option linter.unusedSimpArgs false
set_option linter.unusedVariables false
set_option linter.unusedSectionVars false
set_option maxRecDepth 100000
set_option maxHeartbeats 4000000
def Tryz.lays174_ren : Go.Shelf.Ren := ⟨fun | 174 => 223 | 247 => 248 | 245 => 249 | 287 => 273 | 279 => 274 | 280 => 275 | 281 => 276 | 282 => 277 | 321 => 294 | 322 => 295 | 316 => 296 | 171 => 298 | 205 => 297 | 243 => 306 | 246 => 312 | 283 => 314 | 284 => 315 | 285 => 316 | 286 => 317 | 129 => 198 | 317 => 319 | 318 => 320 | 319 => 321 | 320 => 322 | 337 => 323 | 338 => 324 | n => n, fun | 9 => 9 | 3 => 3 | 2 => 2 | 75 => 31 | 85 => 279 | 4 => 4 | 167 => 320 | 5 => 5 | 53 => 265 | 175 => 321 | 46 => 214 | 168 => 323 | 37 => 340 | 0 => 0 | 210 => 343 | 21 => 21 | 127 => 352 | 145 => 355 | 143 => 353 | 171 => 362 | 173 => 364 | 212 => 367 | 51 => 49 | 20 => 20 | 213 => 368 | 232 => 369 | 233 => 370 | 80 => 371 | n => n, fun | 15 => 1 | 16 => 2 | 17 => 3 | 18 => 4 | 19 => 5 | n => n⟩
theorem Tryz.lays174 : Go.Proofs.LaysC.n174 Tryz.prog Tryz.lays174_ren where
  mixed := by kernel_rfl
  f129 := Tryz.func198.trans (congrArg some (by kernel_rfl))
  f171 := Tryz.func298.trans (congrArg some (by kernel_rfl))
  f174 := Tryz.func223.trans (congrArg some (by kernel_rfl))
  f205 := Tryz.func297.trans (congrArg some (by kernel_rfl))
  f243 := Tryz.func306.trans (congrArg some (by kernel_rfl))
  f245 := Tryz.func249.trans (congrArg some (by kernel_rfl))
  f246 := Tryz.func312.trans (congrArg some (by kernel_rfl))
  f247 := Tryz.func248.trans (congrArg some (by kernel_rfl))
  f279 := Tryz.func274.trans (congrArg some (by kernel_rfl))
  f280 := Tryz.func275.trans (congrArg some (by kernel_rfl))
  f281 := Tryz.func276.trans (congrArg some (by kernel_rfl))
  f282 := Tryz.func277.trans (congrArg some (by kernel_rfl))
  f283 := Tryz.func314.trans (congrArg some (by kernel_rfl))
  f284 := Tryz.func315.trans (congrArg some (by kernel_rfl))
  f285 := Tryz.func316.trans (congrArg some (by kernel_rfl))
  f286 := Tryz.func317.trans (congrArg some (by kernel_rfl))
  f287 := Tryz.func273.trans (congrArg some (by kernel_rfl))
  f316 := Tryz.func296.trans (congrArg some (by kernel_rfl))
  f317 := Tryz.func319.trans (congrArg some (by kernel_rfl))
  f318 := Tryz.func320.trans (congrArg some (by kernel_rfl))
  f319 := Tryz.func321.trans (congrArg some (by kernel_rfl))
  f320 := Tryz.func322.trans (congrArg some (by kernel_rfl))
  f321 := Tryz.func294.trans (congrArg some (by kernel_rfl))
  f322 := Tryz.func295.trans (congrArg some (by kernel_rfl))
  f337 := Tryz.func323.trans (congrArg some (by kernel_rfl))
  f338 := Tryz.func324.trans (congrArg some (by kernel_rfl))
  t0 := Tryz.underlying0
  a0 := Tryz.isAgg0
  z0 := Tryz.sizeOf0
  v0 := Tryz.zeroValue0
  t2 := Tryz.underlying2
  a2 := Tryz.isAgg2
  z2 := Tryz.sizeOf2
  v2 := Tryz.zeroValue2
  t3 := Tryz.underlying3
  a3 := Tryz.isAgg3
  z3 := Tryz.sizeOf3
  v3 := Tryz.zeroValue3
  t4 := Tryz.underlying4
  a4 := Tryz.isAgg4
  z4 := Tryz.sizeOf4
  v4 := Tryz.zeroValue4
  t5 := Tryz.underlying5
  a5 := Tryz.isAgg5
  z5 := Tryz.sizeOf5
  v5 := Tryz.zeroValue5
  t9 := Tryz.underlying9
  a9 := Tryz.isAgg9
  z9 := Tryz.sizeOf9
  v9 := Tryz.zeroValue9
  t20 := Tryz.underlying20
  a20 := Tryz.isAgg20
  z20 := Tryz.sizeOf20
  v20 := Tryz.zeroValue20
  t21 := Tryz.underlying21
  a21 := Tryz.isAgg21
  z21 := Tryz.sizeOf21
  v21 := Tryz.zeroValue21
  t37 := Tryz.underlying340
  a37 := Tryz.isAgg340
  z37 := Tryz.sizeOf340
  v37 := Tryz.zeroValue340
  t46 := Tryz.underlying214
  a46 := Tryz.isAgg214
  z46 := Tryz.sizeOf214
  v46 := Tryz.zeroValue214
  t51 := Tryz.underlying49
  a51 := Tryz.isAgg49
  z51 := Tryz.sizeOf49
  v51 := Tryz.zeroValue49
  t53 := Tryz.underlying265
  a53 := Tryz.isAgg265
  z53 := Tryz.sizeOf265
  v53 := Tryz.zeroValue265
  t75 := Tryz.underlying31
  a75 := Tryz.isAgg31
  z75 := Tryz.sizeOf31
  v75 := Tryz.zeroValue31
  t85 := Tryz.underlying279
  a85 := Tryz.isAgg279
  z85 := Tryz.sizeOf279
  v85 := Tryz.zeroValue279
  t127 := Tryz.underlying352
  a127 := Tryz.isAgg352
  z127 := Tryz.sizeOf352
  v127 := Tryz.zeroValue352
  t143 := Tryz.underlying353
  a143 := Tryz.isAgg353
  z143 := Tryz.sizeOf353
  v143 := Tryz.zeroValue353
  t145 := Tryz.underlying355
  a145 := Tryz.isAgg355
  z145 := Tryz.sizeOf355
  v145 := Tryz.zeroValue355
  t167 := Tryz.underlying320
  a167 := Tryz.isAgg320
  z167 := Tryz.sizeOf320
  v167 := Tryz.zeroValue320
  t168 := Tryz.underlying323
  a168 := Tryz.isAgg323
  z168 := Tryz.sizeOf323
  v168 := Tryz.zeroValue323
  t171 := Tryz.underlying362
  a171 := Tryz.isAgg362
  z171 := Tryz.sizeOf362
  v171 := Tryz.zeroValue362
  t173 := Tryz.underlying364
  a173 := Tryz.isAgg364
  z173 := Tryz.sizeOf364
  v173 := Tryz.zeroValue364
  t175 := Tryz.underlying321
  a175 := Tryz.isAgg321
  z175 := Tryz.sizeOf321
  v175 := Tryz.zeroValue321
  t210 := Tryz.underlying343
  a210 := Tryz.isAgg343
  z210 := Tryz.sizeOf343
  v210 := Tryz.zeroValue343
  t212 := Tryz.underlying367
  a212 := Tryz.isAgg367
  z212 := Tryz.sizeOf367
  v212 := Tryz.zeroValue367
  t213 := Tryz.underlying368
  a213 := Tryz.isAgg368
  z213 := Tryz.sizeOf368
  t232 := Tryz.underlying369
  a232 := Tryz.isAgg369
  z232 := Tryz.sizeOf369
  v232 := Tryz.zeroValue369
  t233 := Tryz.underlying370
  a233 := Tryz.isAgg370
  z233 := Tryz.sizeOf370
  v233 := Tryz.zeroValue370
  g15 := by kernel_rfl
  g16 := by kernel_rfl
  g17 := by kernel_rfl
  g18 := by kernel_rfl
  g19 := by kernel_rfl
  t80 := Tryz.underlying371
  a80 := Tryz.isAgg371
  z80 := Tryz.sizeOf371
  v80 := Tryz.zeroValue371
  i0 := by kernel_rfl
  i2 := by kernel_rfl
  i3 := by kernel_rfl
  i4 := by kernel_rfl
  i5 := by kernel_rfl
  i9 := by kernel_rfl
  i20 := by kernel_rfl
  i21 := by kernel_rfl
  i37 := by kernel_rfl
  i46 := by kernel_rfl
  i51 := by kernel_rfl
  i53 := by kernel_rfl
  i75 := by kernel_rfl
  i80 := by kernel_rfl
  i85 := by kernel_rfl
  i127 := by kernel_rfl
  i143 := by kernel_rfl
  i145 := by kernel_rfl
  i167 := by kernel_rfl
  i168 := by kernel_rfl
  i171 := by kernel_rfl
  i173 := by kernel_rfl
  i175 := by kernel_rfl
  i210 := by kernel_rfl
  i212 := by kernel_rfl
  i232 := by kernel_rfl
  i233 := by kernel_rfl
  m15 := by kernel_rfl
  m16 := by kernel_rfl
  m17 := by kernel_rfl
  m18 := by kernel_rfl
  m19 := by kernel_rfl
  c0 := by kernel_rfl
  c2 := by kernel_rfl
  c3 := by kernel_rfl
  c4 := by kernel_rfl
  c5 := by kernel_rfl
  c9 := by kernel_rfl
  c20 := by kernel_rfl
  c21 := by kernel_rfl
  c37 := by kernel_rfl
  c46 := by kernel_rfl
  c51 := by kernel_rfl
  c53 := by kernel_rfl
  c75 := by kernel_rfl
  c80 := by kernel_rfl
  c85 := by kernel_rfl
  c127 := by kernel_rfl
  c143 := by kernel_rfl
  c145 := by kernel_rfl
  c167 := by kernel_rfl
  c168 := by kernel_rfl
  c171 := by kernel_rfl
  c173 := by kernel_rfl
  c175 := by kernel_rfl
  c210 := by kernel_rfl
  c212 := by kernel_rfl
  c213 := by kernel_rfl
  c232 := by kernel_rfl
  c233 := by kernel_rfl
theorem pcall_of {P : Program} {f : FuncId} {args : List AV} {K : AV → Prop} (hg : goes P f = true)
    (h : ∀ w top vals, LaidAt w (G.ofTop top) → RepL w (G.ofTop top) args vals → Calls P f vals.toArray w fun e w' => ∃ v r, e = .returned v ∧ K r ∧ Rep w' (G.ofTop top) r v ∧ Below w.heap.size w w') : PCall P f args K :=
  ⟨hg, fun w top vals ht hl hr => (h w top vals hl hr).mono fun e w' ⟨v, r, h1, h2, h3, h4⟩ => ⟨v, r, top, h1, h2, h3, h4, fun _ _ => rfl, fun b hb => ht b (Nat.le_trans h4.size hb)⟩⟩
theorem laid_err {w : World} {g : G} (h : LaidAt w g) {b : Nat} (hb : (b, errO) ∈ LAY) : ∃ ev, w.cell? ⟨b, 0, none⟩ = some ev ∧ (ev = .nilIface ∨ ∃ te pe, ev = .iface te pe) := by
  obtain ⟨_, o, h2, cs, t, fr, v, rfl, h3, h4⟩ := h _ hb
  exact ⟨v, by simp [World.cell?, h2, h3], h4⟩
def pInt (s : Str) : Option Int := match Lib.parseIntB 64 s with
  | .ok v => some v
  | _ => none
def dParseInt (fu : Nat) (s : Str) : Option (Option Int) := if s.length ≤ 281474976710656 then some (pInt s) else none
def pIv : Option Int → AV
  | some v => .tup [.int .i64 v, .nilI]
  | none => .tup [.any, .iface 323 .any]
theorem dParseInt_l {fu : Nat} {s : Str} {r : Option Int} (h : dParseInt fu s = some r) : PCall Tryz.prog 223 [.str (sB s), .int .i64 10, .int .i64 64] (· = pIv r) := by
  unfold dParseInt at h
  split at h
  · rename_i hs
    have h := Option.some.inj h
    subst h
    refine pcall_of (by kernel_rfl) fun w top vals hl hr => ?_
    obtain ⟨v0, _, rfl, rfl, v1, _, rfl, rfl, v2, _, rfl, rfl, rfl⟩ := hr
    have hsz : (sB s).size = s.length := by simp [sB, ByteArray.size]
    have hd : (sB s).data.toList = s := by simp [sB]
    unfold pInt
    rcases hp : Lib.parseIntB 64 s with v | _ | _
    · refine (Any.strconv_ParseInt_10_at64_ok Tryz.lays174 (sB s) (by omega) v (by rw [hd]; exact hp) w).mono fun e w' ⟨he, hw⟩ => ?_
      refine ⟨_, _, he, rfl, ⟨[.int .i64 v, .nilIface], rfl, _, _, rfl, rfl, _, _, rfl, rfl, rfl⟩, ?_⟩
      rcases hw with rfl | ⟨t, rfl⟩
      · exact Below.refl _ _
      · exact Lib.bytesWorld_below w _ t
    · obtain ⟨ev, h1, h2⟩ := laid_err hl (b := Tryz.lays174_ren.g 15) (by simp [LAY, Tryz.lays174_ren])
      refine (Any.strconv_ParseInt_10_at64_syntax Tryz.lays174 (sB s) (by omega) (by rw [hd]; exact hp) ev w h1 h2).mono fun e w' ⟨N, he, _, _, hb⟩ => ?_
      exact ⟨_, _, he, rfl, ⟨[.int .i64 0, .iface 323 (.pointer (some ⟨N, 0, none⟩))], rfl, _, _, rfl, trivial, _, _, rfl, ⟨_, rfl, trivial⟩, rfl⟩, hb⟩
    · obtain ⟨ev, h1, h2⟩ := laid_err hl (b := Tryz.lays174_ren.g 16) (by simp [LAY, Tryz.lays174_ren])
      refine (Any.strconv_ParseInt_10_at64_range Tryz.lays174 (sB s) (by omega) (by rw [hd]; exact hp) ev w h1 h2).mono fun e w' ⟨N, he, _, _, hb⟩ => ?_
      exact ⟨_, _, he, rfl, ⟨[.int .i64 (Lib.intSat 64 (sB s).data.toList), .iface 323 (.pointer (some ⟨N, 0, none⟩))], rfl, _, _, rfl, trivial, _, _, rfl, ⟨_, rfl, trivial⟩, rfl⟩, hb⟩
  · cases h
end Go.Proofs.YtbkomicjhfldmaaGreatDoor
namespace Go.Proofs.YtbkomicjhfldmaaGreatDoor
open Go.Pv
set_option maxRecDepth 100000
set_option maxHeartbeats 4000000
set_option linter.unusedSimpArgs false
set_option linter.unusedVariables false
set_option linter.unusedSectionVars false
structure ttokenToken where
  Kind : Int
  At : Int
  N : Int
  S : Str
def c_ttokenToken (x : ttokenToken) : List AV := [.int .i64 x.Kind, .int .i64 x.At, .int .i64 x.N, .str (sB x.S)]
def dstringslite_HasPrefix (fu : Nat) (s1 : Str) (prefix1 : Str) : Option Bool :=
  bif (decide ((s1.length : Int) ≥ (prefix1.length : Int))) then ((gsl s1 0 (prefix1.length : Int)).bind fun s2 => some (s2 == prefix1)) else some false
section
attribute [local irreducible] awp aops DP PCall ACall Decidable.decide
theorem dstringslite_HasPrefix_l {fu : Nat} {s1 : Str} {prefix1 : Str} {r : Bool} (h : dstringslite_HasPrefix fu s1 prefix1 = some r) : PCall Tryz.prog 213 [.str (sB s1), .str (sB prefix1)] (· = .bool r) := by
 rw [dstringslite_HasPrefix] at h
 refine pB_ Tryz.func213 ?_
 refine aSR (rv rfl rfl (rn (aSR (rg 6 rfl (gT2 rfl rfl rfl rfl rfl h (fun h_1 => ?_) fun h_1 => ?_)))))
 ·clear h
  exact rg 3 rfl (gy rfl rfl rfl (bx h_1 fun s2 hx1 h_2 => rV rfl (va_ssub rfl rfl rfl rfl ⟨_, rfl⟩ hx1) (rg 2 rfl (rt (sEq s2 prefix1) (rg 2 rfl (rn (aT (si h_2 ▸ rF))))))))
 clear h
 exact rg 7 rfl (rn (aT (si h_1 ▸ rF)))
def dstrings_HasPrefix (fu : Nat) (s1 : Str) (prefix1 : Str) : Option Bool :=
  (dstringslite_HasPrefix fu s1 prefix1).bind fun x1 => some x1
theorem dstrings_HasPrefix_l {fu : Nat} {s1 : Str} {prefix1 : Str} {r : Bool} (h : dstrings_HasPrefix fu s1 prefix1 = some r) : PCall Tryz.prog 158 [.str (sB s1), .str (sB prefix1)] (· = .bool r) := by
 rw [dstrings_HasPrefix] at h
 refine pB_ Tryz.func158 ?_
 exact aSR (rv rfl rfl (rn (aSR (rg 2 rfl (bx h fun x1 hx1 h_1 => rc1 rfl rfl rfl (dstringslite_HasPrefix_l hx1) (rv rfl rfl (rn (aT (si h_1 ▸ rF)))))))))
def dstringslite_TrimPrefix (fu : Nat) (s1 : Str) (prefix1 : Str) : Option Str :=
  (dstringslite_HasPrefix fu s1 prefix1).bind fun x1 => bif x1 then ((gsl s1 (prefix1.length : Int) (s1.length : Int)).bind fun s2 => some s2) else some s1
theorem dstringslite_TrimPrefix_l {fu : Nat} {s1 : Str} {prefix1 : Str} {r : Str} (h : dstringslite_TrimPrefix fu s1 prefix1 = some r) : PCall Tryz.prog 247 [.str (sB s1), .str (sB prefix1)] (· = .str (sB r)) := by
 rw [dstringslite_TrimPrefix] at h
 refine pB_ Tryz.func247 ?_
 refine aSR (rv rfl rfl (rn (aS (aSR (rg 2 rfl (bx h fun x1 hx1 h_1 => rc1 rfl rfl rfl (dstringslite_HasPrefix_l hx1) (rn (cS2 rfl h_1 (fun h_2 => ?_) fun h_2 => ?_))))))))
 ·clear h h_1
  exact aSR (rg 3 rfl (bx h_2 fun s2 hx2 h_3 => rV rfl (va_ssub rfl rfl rfl ⟨_, rfl⟩ rfl hx2) (rv rfl rfl (rn (aT (si h_3 ▸ rF))))))
 clear h h_1
 exact aK (aSR (rg 2 rfl (rn (aT (si h_2 ▸ rF)))))
def dstrings_TrimPrefix (fu : Nat) (s1 : Str) (prefix1 : Str) : Option Str :=
  (dstringslite_TrimPrefix fu s1 prefix1).bind fun x1 => some x1
theorem dstrings_TrimPrefix_l {fu : Nat} {s1 : Str} {prefix1 : Str} {r : Str} (h : dstrings_TrimPrefix fu s1 prefix1 = some r) : PCall Tryz.prog 222 [.str (sB s1), .str (sB prefix1)] (· = .str (sB r)) := by
 rw [dstrings_TrimPrefix] at h
 refine pB_ Tryz.func222 ?_
 exact aSR (rv rfl rfl (rn (aSR (rg 2 rfl (bx h fun x1 hx1 h_1 => rc1 rfl rfl rfl (dstringslite_TrimPrefix_l hx1) (rv rfl rfl (rn (aT (si h_1 ▸ rF)))))))))
def dslices_Index_string (fu : Nat) (s1 : List Str) (v1 : Str) : Option Int :=
  (loopD (ε := Int) (τ := Unit ⊕ Int) (fun (x1 : Int) => (bif (decide (x1 < (s1.length : Int))) then ((gi s1 x1).bind fun x3 => bif (v1 == x3) then some (Sum.inr (Sum.inr x1)) else some (Sum.inl (W (x1 + 1)))) else some (Sum.inr (Sum.inl ())))) fu 0).bind fun o => kS o fun (_ : Unit) => some (-1)
theorem dslices_Index_string_l {fu : Nat} {s1 : List Str} {v1 : Str} {r : Int} (h : dslices_Index_string fu s1 v1 = some r) : PCall Tryz.prog 221 [.sl (s1.map cS), .str (sB v1)] (· = .int .i64 r) := by
 rw [dslices_Index_string] at h
 refine pB_ Tryz.func221 ?_
 refine aSR (rv rfl rfl (rn (aS (aSR (rg 2 rfl (rt ((lM cS s1)) (rv rfl rfl (rn (bx h fun e1 hl2 h_1 => awp_cut1 (fun x => Sum.inl x = e1) (fun (_ : Unit) => ⟨[], [], [], 0⟩) ?_ ?_)))))))))
 ·clear h
  refine aB (awp_loopD hl2 (fun (x1 : Int) => ⟨[(0, .sl (s1.map cS)), (1, .str (sB v1)), (7, .int .i64 (s1.length : Int)), (8, .int .i64 x1)], [], [], 0⟩) [] rfl zs ?_)
  intro x1 o5 ho3 hE4
  refine ch (aSR (rv rfl rfl (rn (aS (cS2 rfl ho3 (fun ho3_1 => ?_) fun ho3_1 => ?_)))))
  ·clear ho3
   refine aK (aS (aB (aSR (rg 2 rfl (rn (aSR (rg 3 rfl (bx ho3_1 fun x3 hx6 ho3_2 => ri rfl rfl rfl rfl rfl rfl (gi0 hx6) (giM cS hx6) (wM (fun _ => by rfl) _) ?_))))))))
   refine rg 2 rfl (rt (sEq v1 x3) (rn (cS2 rfl ho3_2 (fun ho3_3 => ?_) fun ho3_3 => ?_)))
   ·clear ho3_1 ho3_2
    refine aSR (rg 2 rfl (rn (aT ?_)))
    cases ho3_3
    have hq := hE4 _ rfl
    subst hq
    have h_2 := ksr h_1
    subst h_2
    exact rF
   clear ho3_1 ho3_2
   exact aK (inBlock_normal (aR (rg 2 rfl (rn (si ho3_3 ▸ lN [])))))
  clear ho3
  refine awp_exit (xX ?_)
  cases ho3_1
  have hq := hE4 _ rfl
  subst hq
  exact cN []
 clear h
 rintro _ rfl
 have h_2 := ksl h_1
 exact aSR (rv rfl rfl (rn (aT (si h_2 ▸ rF))))
def dslices_Contains_string (fu : Nat) (s1 : List Str) (v1 : Str) : Option Bool :=
  (dslices_Index_string fu s1 v1).bind fun x1 => some (decide (x1 ≥ 0))
theorem dslices_Contains_string_l {fu : Nat} {s1 : List Str} {v1 : Str} {r : Bool} (h : dslices_Contains_string fu s1 v1 = some r) : PCall Tryz.prog 175 [.sl (s1.map cS), .str (sB v1)] (· = .bool r) := by
 rw [dslices_Contains_string] at h
 refine pB_ Tryz.func175 ?_
 exact aSR (rv rfl rfl (rn (aSR (rg 2 rfl (bx h fun x1 hx1 h_1 => rc1 rfl rfl rfl (dslices_Index_string_l hx1) (rg 2 rfl (rn (aT (si h_1 ▸ rF)))))))))
def dtoken_lower (fu : Nat) (c1 : Int) : Option Bool :=
  bif (decide (c1 ≥ 97)) then ((some (decide (c1 ≤ 122))).bind fun x1 => some x1) else some false
theorem dtoken_lower_l {fu : Nat} {c1 : Int} {r : Bool} (h : dtoken_lower fu c1 = some r) : PCall Tryz.prog 171 [.int .u8 c1] (· = .bool r) := by
 rw [dtoken_lower] at h
 refine pB_ Tryz.func171 ?_
 refine aSR (rv rfl rfl (rn (aSR (rg 3 rfl (gT2 rfl rfl rfl rfl rfl h (fun h_1 => ?_) fun h_1 => ?_)))))
 ·clear h
  refine rg 4 rfl ?_
  obtain ⟨x1, hx1, h_2⟩ := bs h_1
  exact rt (eb' hx1) (rn (aT (si h_2 ▸ rF)))
 clear h
 exact rg 3 rfl (rn (aT (si h_1 ▸ rF)))
def dtoken_digit (fu : Nat) (c1 : Int) : Option Bool :=
  bif (decide (c1 ≥ 48)) then some (decide (c1 ≤ 57)) else some false
theorem dtoken_digit_l {fu : Nat} {c1 : Int} {r : Bool} (h : dtoken_digit fu c1 = some r) : PCall Tryz.prog 174 [.int .u8 c1] (· = .bool r) := by
 rw [dtoken_digit] at h
 refine pB_ Tryz.func174 ?_
 refine aSR (rv rfl rfl (rn (aSR (rg 3 rfl (gT2 rfl rfl rfl rfl rfl h (fun h_1 => ?_) fun h_1 => ?_)))))
 ·clear h
  exact rg 4 rfl (rn (aT (si h_1 ▸ rF)))
 clear h
 exact rg 3 rfl (rn (aT (si h_1 ▸ rF)))
def dtoken_upto (fu : Nat) (s1 : Str) (is1 : Int → Option Bool) : Option Int :=
  (loopD (ε := Int) (τ := Int) (fun (n1 : Int) => ((bif (decide (n1 < (s1.length : Int))) then ((gi s1 n1).bind fun c1 => (is1 (c1.toNat : Int)).bind fun x2 => some x2) else some false : Option Bool).bind fun (x1 : Bool) => (bif x1 then some (Sum.inl (W (n1 + 1))) else some (Sum.inr n1)))) fu 0).bind fun (n3 : Int) => some n3
theorem dtoken_upto_l {fu : Nat} {s1 : Str} {is1 : Int → Option Bool} {r : Int} {k_is1 : FuncId} {cs_is1 : List AV} (hl_is1 : Cl cs_is1) (hf_is1 : ∀ {a0 r}, is1 a0 = some r → PCall Tryz.prog k_is1 ([.int .u8 a0] ++ cs_is1) (· = .bool r)) (h : dtoken_upto fu s1 is1 = some r) : PCall Tryz.prog 172 [.str (sB s1), .fn k_is1 cs_is1] (· = .int .i64 r) := by
 rw [dtoken_upto] at h
 refine pB_ Tryz.func172 ?_
 refine aSR (rv rfl rfl (rn (aSR (rv rfl rfl (rn (aS (bx h fun e1 hl2 h_1 => awp_cut1 (fun x => x = e1) (fun (n3 : Int) => ⟨[(5, .int .i64 n3)], [], [], 0⟩) ?_ ?_)))))))
 ·clear h
  refine aB (awp_loopD hl2 (fun (n1 : Int) => ⟨[(0, .str (sB s1)), (1, .fn k_is1 cs_is1), (5, .int .i64 n1)], [], [], 0⟩) [] rfl ⟨rfl, rfl, zA rfl rfl rfl (zA rfl (AV.ren_closed (.fn _ _) hl_is1.lim).symm (limL_mono (Nat.zero_le _) _ hl_is1.lim) (zA rfl rfl rfl (trivial))), trivial, trivial⟩ ?_)
  intro n1 o5 ho3 hE4
  refine ch (aS (aS (bx ho3 fun o6 ho7 ho3_1 => awp_cut1 (fun x => x = o6) (fun (x1 : Bool) => ⟨[(0, .str (sB s1)), (1, .fn k_is1 cs_is1), (5, .int .i64 n1), (16, .bool x1)], [], [], 0⟩) ?_ ?_)))
  ·clear ho3
   refine aR (rg 5 rfl (gT2 rfl rfl rfl rfl rfl ho7 (fun ho7_1 => ?_) fun ho7_1 => ?_))
   ·clear ho7
    refine rv' rfl rfl (rg 2 rfl (gy rfl rfl rfl (bx ho7_1 fun c1 hx8 ho7_2 => rV rfl (va_sidx rfl rfl rfl rfl hx8) (gy rfl rfl rfl (bx ho7_2 fun x2 hx9 ho7_3 => rcf rfl rfl hl_is1 rfl (hf_is1 hx9) (rv rfl rfl (rn ?_)))))))
    cases ho7_3
    exact cut_n [] rfl rfl ⟨rfl, rfl, zA rfl rfl rfl (zA rfl (AV.ren_closed (.fn _ _) hl_is1.lim).symm (limL_mono (Nat.zero_le _) _ hl_is1.lim) (zA rfl rfl rfl (zA rfl rfl rfl (trivial)))), trivial, trivial⟩
   clear ho7
   refine rg 5 rfl (rn ?_)
   cases ho7_1
   exact cut_n [] rfl rfl ⟨rfl, rfl, zA rfl rfl rfl (zA rfl (AV.ren_closed (.fn _ _) hl_is1.lim).symm (limL_mono (Nat.zero_le _) _ hl_is1.lim) (zA rfl rfl rfl (zA rfl rfl rfl (trivial)))), trivial, trivial⟩
  clear ho3
  rintro x1 rfl
  refine ch (cS2 rfl ho3_1 (fun ho3_2 => ?_) fun ho3_2 => ?_)
  ·clear ho3_1
   refine aK (aB (aR (rg 3 rfl (rn (inBlock_normal ?_)))))
   cases ho3_2
   exact lp_n [] rfl rfl ⟨rfl, rfl, zA rfl rfl rfl (zA rfl (AV.ren_closed (.fn _ _) hl_is1.lim).symm (limL_mono (Nat.zero_le _) _ hl_is1.lim) (zA rfl rfl rfl (trivial))), trivial, trivial⟩
  clear ho3_1
  refine awp_exit (xX ?_)
  cases ho3_2
  have hq := hE4 _ rfl
  subst hq
  exact cN []
 clear h
 rintro n3 rfl
 exact aSR (rg 2 rfl (rn (aT (si h_1 ▸ rF))))
def dtoken_words (fu : Nat)  : Option (List Str) :=
  some ([[97, 110, 100], [111, 114], [110, 111, 116], [105, 110], [116, 114, 117, 101]])
theorem dtoken_words_l {fu : Nat}  {r : List Str} (h : dtoken_words fu  = some r) : PCall Tryz.prog 176 [] (· = .sl (r.map cS)) := by
 rw [dtoken_words] at h
 refine pB_ Tryz.func176 ?_
 exact aSR (rv rfl rfl (rn (aSR (rbs false rfl rfl rfl rfl rfl rfl rfl rfl rfl rfl (rv rfl rfl (rn (aT (si h ▸ rF))))))))
def dtoken_signs (fu : Nat)  : Option (List Str) :=
  some ([[60, 61], [33, 61], [62, 61], [94, 61], [40], [41], [44], [60], [61], [62]])
theorem dtoken_signs_l {fu : Nat}  {r : List Str} (h : dtoken_signs fu  = some r) : PCall Tryz.prog 179 [] (· = .sl (r.map cS)) := by
 rw [dtoken_signs] at h
 refine pB_ Tryz.func179 ?_
 exact aSR (rv rfl rfl (rn (aSR (rbs false rfl rfl rfl rfl rfl rfl rfl rfl rfl rfl (rv rfl rfl (rn (aT (si h ▸ rF))))))))
def dtoken_one_1 (fu : Nat) (c1 : Int) : Option Bool :=
  (dtoken_lower fu c1).bind fun x1 => bif x1 then some true else ((dtoken_digit fu c1).bind fun x2 => some x2)
theorem dtoken_one_1_l {fu : Nat} {c1 : Int} {r : Bool} (h : dtoken_one_1 fu c1 = some r) : PCall Tryz.prog 173 [.int .u8 c1] (· = .bool r) := by
 rw [dtoken_one_1] at h
 refine pB_ Tryz.func173 ?_
 refine aSR (rv rfl rfl (rn (aSR (rv rfl rfl (bx h fun x1 hx1 h_1 => rc1 rfl rfl rfl (dtoken_lower_l hx1) (rv rfl rfl (gF2 rfl rfl rfl rfl rfl h_1 (fun h_2 => ?_) fun h_2 => ?_)))))))
 ·clear h h_1
  exact rv rfl rfl (gy rfl rfl rfl (bx h_2 fun x2 hx2 h_3 => rc1 rfl rfl rfl (dtoken_digit_l hx2) (rg 2 rfl (rn (aT (si h_3 ▸ rF))))))
 clear h h_1
 exact rg 3 rfl (rn (aT (si h_2 ▸ rF)))
def dtoken_one_2 (fu : Nat) (c1 : Int) : Option Bool :=
  bif (decide (c1 ≥ 32)) then (bif (decide (c1 ≤ 126)) then some (c1 != 34) else some false) else some false
theorem dtoken_one_2_l {fu : Nat} {c1 : Int} {r : Bool} (h : dtoken_one_2 fu c1 = some r) : PCall Tryz.prog 178 [.int .u8 c1] (· = .bool r) := by
 rw [dtoken_one_2] at h
 refine pB_ Tryz.func178 ?_
 refine aSR (rv rfl rfl (rn (aSR (rg 3 rfl (gT2 rfl rfl rfl rfl rfl h (fun h_1 => ?_) fun h_1 => ?_)))))
 ·clear h
  refine rg 4 rfl (gT2 rfl rfl rfl rfl rfl h_1 (fun h_2 => ?_) fun h_2 => ?_)
  ·clear h_1
   exact rg 4 rfl (rn (aT (si h_2 ▸ rF)))
  clear h_1
  exact rg 3 rfl (rn (aT (si h_2 ▸ rF)))
 clear h
 exact rg 7 rfl (rn (aT (si h_1 ▸ rF)))
def dtoken_number (fu : Nat) (s1 : Str) : Option (Int × Int) :=
  (dstrings_TrimPrefix fu s1 [45]).bind fun digits1 => (dtoken_upto fu digits1 (fun x0 => dtoken_digit fu x0)).bind fun n1 => (some (W ((W ((s1.length : Int) - (digits1.length : Int))) + n1))).bind fun all1 => (gsl s1 0 all1).bind fun s2 => (dParseInt fu s2).bind fun v1 => match v1 with | none => some (0, 0) | some v2 => ((bif (decide (n1 > 1)) then ((gi digits1 0).bind fun c1 => bif ((c1.toNat : Int) == 48) then some true else (bif (v2 == 0) then some (decide (all1 > n1)) else some false)) else (bif (v2 == 0) then some (decide (all1 > n1)) else some false) : Option Bool).bind fun (x1 : Bool) => (bif x1 then some (0, 0) else some (v2, all1)))
theorem dtoken_number_l {fu : Nat} {s1 : Str} {r : Int × Int} (h : dtoken_number fu s1 = some r) : PCall Tryz.prog 177 [.str (sB s1)] (· = .tup [.int .i64 r.1, .int .i64 r.2]) := by
 rw [dtoken_number] at h
 refine pB_ Tryz.func177 ?_
 refine aSR (rg 2 rfl (rn (aSR (rv rfl rfl (bx h fun digits1 hx1 h_1 => rc1 rfl rfl rfl (dstrings_TrimPrefix_l hx1) (rv rfl rfl (rn (aSR (rv rfl rfl (bx h_1 fun n1 hx2 h_2 => rc1 rfl rfl rfl (dtoken_upto_l ⟨rfl, fun _ => rfl⟩ (fun hq => dtoken_digit_l hq) hx2) (rv rfl rfl (rn (aSR (rg 8 rfl ?_))))))))))))))
 obtain ⟨all1, hx3, h_3⟩ := bs h_2
 refine rt (ei' hx3) (rn (aSR (rg 2 rfl (bx h_3 fun s2 hx4 h_4 => rV rfl (va_ssub rfl rfl rfl rfl ⟨_, rfl⟩ hx4) (bx h_4 fun v1 hx5 h_5 => ?_)))))
 obtain _ | v2 := v1
 ·clear h h_1 h_2 h_3 h_4
  exact rc1 rfl rfl rfl (show PCall Tryz.prog 223 [.str (sB s2), .int .i64 10, .int .i64 64] (· = .tup [.any, .iface 323 (.any)]) from dParseInt_l hx5) (rg 5 rfl (rn (aS (aSR (rg 6 rfl (gu rfl rfl rfl rfl (gu rfl rfl rfl rfl (gu rfl rfl rfl rfl (rg 6 rfl (gu rfl rfl rfl rfl (gu rfl rfl rfl rfl (gu rfl rfl rfl rfl (rg 2 rfl (rn (ct rfl (aSR (rg 2 rfl (rn (aT (si h_5 ▸ rF))))))))))))))))))))
 clear h h_1 h_2 h_3 h_4
 refine rc1 rfl rfl rfl (show PCall Tryz.prog 223 [.str (sB s2), .int .i64 10, .int .i64 64] (· = .tup [.int .i64 v2, .nilI]) from dParseInt_l hx5) (rg 5 rfl (rn (aS (aS (bx h_5 fun o6 ho7 h_6 => awp_cut1 (fun x => x = o6) (fun (x1 : Bool) => ⟨[(6, .int .i64 all1), (7, .int .i64 v2), (46, .bool x1)], [], [], 0⟩) ?_ ?_)))))
 ·clear h_5
  refine aR (rg 6 rfl (gT2 rfl rfl rfl rfl rfl ho7 (fun ho7_1 => ?_) fun ho7_1 => ?_))
  ·clear ho7
   refine rv rfl rfl (gy rfl rfl rfl (bx ho7_1 fun c1 hx8 ho7_2 => rV rfl (va_sidx rfl rfl rfl rfl hx8) (rg 4 rfl (gF2 rfl rfl rfl rfl rfl ho7_2 (fun ho7_3 => ?_) fun ho7_3 => ?_))))
   ·clear ho7_1 ho7_2
    refine rg 3 rfl (gT2 rfl rfl rfl rfl rfl ho7_3 (fun ho7_4 => ?_) fun ho7_4 => ?_)
    ·clear ho7_3
     exact rg 5 rfl (rn (si ho7_4 ▸ cN []))
    clear ho7_3
    exact rg 4 rfl (rn (si ho7_4 ▸ cN []))
   clear ho7_1 ho7_2
   exact rg 2 rfl (gu rfl rfl rfl rfl (gu rfl rfl rfl rfl (gu rfl rfl rfl rfl (rg 2 rfl (rn (si ho7_3 ▸ cN []))))))
  clear ho7
  refine rg 8 rfl (gT2 rfl rfl rfl rfl rfl ho7_1 (fun ho7_2 => ?_) fun ho7_2 => ?_)
  ·clear ho7_1
   exact rg 5 rfl (rn (si ho7_2 ▸ cN []))
  clear ho7_1
  exact rg 4 rfl (rn (si ho7_2 ▸ cN []))
 clear h_5
 rintro x1 rfl
 refine ch (cS2 rfl h_6 (fun h_7 => ?_) fun h_7 => ?_)
 ·clear h_6
  exact aSR (rg 2 rfl (rn (aT (si h_7 ▸ rF))))
 clear h_6
 exact aK (aSR (rg 4 rfl (rn (aT (si h_7 ▸ rF)))))
def dtoken_one (fu : Nat) (s1 : Str) : Option (ttokenToken × Int) :=
  (gi s1 0).bind fun c1 => (dtoken_lower fu (c1.toNat : Int)).bind fun x1 => bif x1 then ((dtoken_upto fu s1 (fun x0 => dtoken_one_1 fu x0)).bind fun n1 => (gsl s1 0 n1).bind fun s2 => (dtoken_words fu ).bind fun x2 => (dslices_Contains_string fu x2 s2).bind fun x3 => (bif x3 then some 2 else some 1 : Option Int).bind fun (t1 : Int) => ((bif (decide (n1 > 20)) then some 0 else some n1 : Option Int).bind fun (n2 : Int) => some ((ttokenToken.mk t1 0 0 s2), n2))) else (((dtoken_digit fu (c1.toNat : Int)).bind fun x5 => bif x5 then some true else some ((c1.toNat : Int) == 45) : Option Bool).bind fun (x4 : Bool) => (bif x4 then ((dtoken_number fu s1).bind fun v1 => some ((ttokenToken.mk 3 0 v1.1 []), v1.2)) else (bif ((c1.toNat : Int) == 34) then ((gsl s1 1 (s1.length : Int)).bind fun s3 => (dtoken_upto fu s3 (fun x0 => dtoken_one_2 fu x0)).bind fun n3 => (bif (decide (n3 > 200)) then some true else (bif (decide ((W (n3 + 1)) ≥ (s1.length : Int))) then some true else ((gi s1 (W (n3 + 1))).bind fun c2 => some ((c2.toNat : Int) != 34))) : Option Bool).bind fun (x6 : Bool) => (bif x6 then some ((ttokenToken.mk 0 0 0 []), 0) else ((gsl s1 1 (W (n3 + 1))).bind fun s4 => some ((ttokenToken.mk 4 0 0 s4), W (n3 + 2))))) else ((dtoken_signs fu ).bind fun x7 => (loopD (ε := Int) (τ := Unit ⊕ (ttokenToken × Int)) (fun (x8 : Int) => (bif (decide (x8 < (x7.length : Int))) then ((gi x7 x8).bind fun x10 => (dstrings_HasPrefix fu s1 x10).bind fun x11 => bif x11 then ((some ((x10.length : Int))).bind fun x12 => some (Sum.inr (Sum.inr ((ttokenToken.mk 5 0 0 x10), x12)))) else some (Sum.inl (W (x8 + 1)))) else some (Sum.inr (Sum.inl ())))) fu 0).bind fun o => kS o fun (_ : Unit) => some ((ttokenToken.mk 0 0 0 []), 0)))))
theorem dtoken_one_l {fu : Nat} {s1 : Str} {r : ttokenToken × Int} (h : dtoken_one fu s1 = some r) : PCall Tryz.prog 123 [.str (sB s1)] (· = .tup [.agg [.int .i64 r.1.Kind, .int .i64 r.1.At, .int .i64 r.1.N, .str (sB r.1.S)], .int .i64 r.2]) := by
 rw [dtoken_one] at h
 refine pB_ Tryz.func123 ?_
 refine aSR (ra rfl rfl rfl (rv rfl rfl (rn (aS (aSR (rv rfl rfl (bx h fun c1 hx1 h_1 => rV rfl (va_sidx rfl rfl rfl rfl hx1) (rv rfl rfl (rn (aB (aSR (rv rfl rfl (bx h_1 fun x1 hx2 h_2 => rc1 rfl rfl rfl (dtoken_lower_l hx2) (rv rfl rfl (rn (cS2 rfl h_2 (fun h_3 => ?_) fun h_3 => ?_))))))))))))))))
 ·clear h h_1 h_2
  refine aSR (rv rfl rfl (bx h_3 fun n1 hx3 h_4 => rc1 rfl rfl rfl (dtoken_upto_l ⟨rfl, fun _ => rfl⟩ (fun hq => dtoken_one_1_l hq) hx3) (rv rfl rfl (rn (aSR (rg 2 rfl (bx h_4 fun s2 hx4 h_5 => rV rfl (va_ssub rfl rfl rfl rfl ⟨_, rfl⟩ hx4) (rv rfl rfl (ra rfl rfl rfl (rs rfl rfl rfl rfl rfl rfl rfl (rn (aS (aS (dP_ 4 Tryz.mix (bx h_5 fun x2 hx5 h_6 => dc rfl rfl rfl rfl (fun _ => rfl) (fun _ => (dtoken_words_l hx5)) (dv rfl rfl (fun _ => rfl) (dv rfl rfl (fun _ => rfl) (bx h_6 fun x3 hx6 h_7 => dc rfl rfl rfl rfl (fun _ => rfl) (fun _ => (dslices_Contains_string_l hx6)) (dn (rn (bx h_7 fun o7 ho8 h_8 => awp_cut1 (fun x => x = o7) (fun (t1 : Int) => ⟨[(2, .ptr 0 0), (5, .int .i64 n1), (6, .ptr 1 0)], [(0, 0, .int .i64 0), (0, 1, .int .i64 0), (0, 2, .int .i64 0), (0, 3, .str (sB [])), (1, 0, .int .i64 t1), (1, 1, .int .i64 0), (1, 2, .int .i64 0), (1, 3, .str (sB s2))], [], 2⟩) ?_ ?_)))))))))))))))))))))
  ·clear h_3 h_4 h_5 h_6 h_7
   refine cS2 rfl ho8 (fun ho8_1 => ?_) fun ho8_1 => ?_
   ·clear ho8
    exact aR (rv rfl rfl (rs rfl rfl rfl rfl rfl rfl rfl (rn (si ho8_1 ▸ cN [0,1]))))
   clear ho8
   exact aK (si ho8_1 ▸ cN [0,1])
  clear h_3 h_4 h_5 h_6 h_7
  rintro t1 rfl
  refine ch (aS (aSR (rg 2 rfl (rn (bx h_8 fun o9 ho10 h_9 => awp_cut1 (fun x => x = o9) (fun (n2 : Int) => ⟨[(2, .ptr 0 0), (5, .int .i64 n2), (6, .ptr 1 0)], [(0, 0, .int .i64 0), (0, 1, .int .i64 0), (0, 2, .int .i64 0), (0, 3, .str (sB [])), (1, 0, .int .i64 t1), (1, 1, .int .i64 0), (1, 2, .int .i64 0), (1, 3, .str (sB s2))], [], 2⟩) ?_ ?_)))))
  ·clear h_8
   refine cS2 rfl ho10 (fun ho10_1 => ?_) fun ho10_1 => ?_
   ·clear ho10
    exact aR (rv rfl rfl (rn (si ho10_1 ▸ cN [0,1])))
   clear ho10
   exact aK (si ho10_1 ▸ cN [0,1])
  clear h_8
  rintro n2 rfl
  exact ch (aSR (rg 2 rfl (rs rfl rfl rfl rfl rfl rfl rfl (rv rfl rfl (rn (aT (si h_9 ▸ rF)))))))
 clear h h_1 h_2
 refine aS (bx h_3 fun o11 ho12 h_4 => awp_cut1 (fun x => x = o11) (fun (x4 : Bool) => ⟨[(0, .str (sB s1)), (2, .ptr 0 0), (4, .int .u8 (c1.toNat : Int)), (32, .bool x4)], [(0, 0, .int .i64 0), (0, 1, .int .i64 0), (0, 2, .int .i64 0), (0, 3, .str (sB []))], [], 1⟩) ?_ ?_)
 ·clear h_3
  refine aR (rv rfl rfl (bx ho12 fun x5 hx13 ho12_1 => rc1 rfl rfl rfl (dtoken_digit_l hx13) (rv rfl rfl (gF2 rfl rfl rfl rfl rfl ho12_1 (fun ho12_2 => ?_) fun ho12_2 => ?_))))
  ·clear ho12 ho12_1
   exact rg 4 rfl (rn (si ho12_2 ▸ cN [0]))
  clear ho12 ho12_1
  exact rg 3 rfl (rn (si ho12_2 ▸ cN [0]))
 clear h_3
 rintro x4 rfl
 refine ch (cS2 rfl h_4 (fun h_5 => ?_) fun h_5 => ?_)
 ·clear h_4
  exact aSR (rv rfl rfl (bx h_5 fun v1 hx14 h_6 => rc1 rfl rfl rfl (dtoken_number_l hx14) (rg 5 rfl (rn (aSR (rg 3 rfl (rs rfl rfl rfl rfl rfl rfl rfl (rv rfl rfl (rn (aT (si h_6 ▸ rF)))))))))))
 clear h_4
 refine aSR (rg 3 rfl (rn (cS2 rfl h_5 (fun h_6 => ?_) fun h_6 => ?_)))
 ·clear h_5
  refine aSR (rv rfl rfl (bx h_6 fun s3 hx15 h_7 => rV rfl (va_ssub rfl rfl rfl ⟨_, rfl⟩ rfl hx15) (bx h_7 fun n3 hx16 h_8 => rc1 rfl rfl rfl (dtoken_upto_l ⟨rfl, fun _ => rfl⟩ (fun hq => dtoken_one_2_l hq) hx16) (rv rfl rfl (rn (aS (aS (bx h_8 fun o17 ho18 h_9 => awp_cut1 (fun x => x = o17) (fun (x6 : Bool) => ⟨[(0, .str (sB s1)), (2, .ptr 0 0), (9, .int .i64 n3), (68, .bool x6)], [(0, 0, .int .i64 0), (0, 1, .int .i64 0), (0, 2, .int .i64 0), (0, 3, .str (sB []))], [], 1⟩) ?_ ?_))))))))
  ·clear h_6 h_7 h_8
   refine aR (rg 3 rfl (gF2 rfl rfl rfl rfl rfl ho18 (fun ho18_1 => ?_) fun ho18_1 => ?_))
   ·clear ho18
    refine rg 7 rfl (gF2 rfl rfl rfl rfl rfl ho18_1 (fun ho18_2 => ?_) fun ho18_2 => ?_)
    ·clear ho18_1
     exact rg 3 rfl (gy rfl rfl rfl (bx ho18_2 fun c2 hx19 ho18_3 => rV rfl (va_sidx rfl rfl rfl rfl hx19) (rg 2 rfl (rn (si ho18_3 ▸ cN [0])))))
    clear ho18_1
    exact rg 5 rfl (rn (si ho18_2 ▸ cN [0]))
   clear ho18
   exact rg 12 rfl (rn (si ho18_1 ▸ cN [0]))
  clear h_6 h_7 h_8
  rintro x6 rfl
  refine ch (cS2 rfl h_9 (fun h_10 => ?_) fun h_10 => ?_)
  ·clear h_9
   exact aSR (rv rfl rfl (rs rfl rfl rfl rfl rfl rfl rfl (rv rfl rfl (rn (aT (si h_10 ▸ rF))))))
  clear h_9
  exact aK (aSR (rg 3 rfl (bx h_10 fun s4 hx20 h_11 => rV rfl (va_ssub rfl rfl rfl ⟨_, rfl⟩ ⟨_, rfl⟩ hx20) (rg 3 rfl (rs rfl rfl rfl rfl rfl rfl rfl (rv rfl rfl (rn (aT (si h_11 ▸ rF)))))))))
 clear h_5
 refine aK (inBlock_normal (aS (aSR (bx h_6 fun x7 hx21 h_7 => rc1 rfl rfl rfl (dtoken_signs_l hx21) (rv rfl rfl (rt ((lM cS x7)) (rv rfl rfl (rn (bx h_7 fun e22 hl23 h_8 => awp_cut1 (fun x => Sum.inl x = e22) (fun (_ : Unit) => ⟨[(2, .ptr 0 0)], [(0, 0, .int .i64 0), (0, 1, .int .i64 0), (0, 2, .int .i64 0), (0, 3, .str (sB []))], [], 1⟩) ?_ ?_)))))))))
 ·clear h_6 h_7
  refine aB (awp_loopD hl23 (fun (x8 : Int) => ⟨[(0, .str (sB s1)), (2, .ptr 0 0), (77, .sl (x7.map cS)), (78, .int .i64 (x7.length : Int)), (79, .int .i64 x8)], [(0, 0, .int .i64 0), (0, 1, .int .i64 0), (0, 2, .int .i64 0), (0, 3, .str (sB []))], [], 1⟩) [0] rfl zs ?_)
  intro x8 o26 ho24 hE25
  refine ch (aSR (rv rfl rfl (rn (aS (cS2 rfl ho24 (fun ho24_1 => ?_) fun ho24_1 => ?_)))))
  ·clear ho24
   refine aK (aS (aB (aSR (bx ho24_1 fun x10 hx27 ho24_2 => ri rfl rfl rfl rfl rfl rfl (gi0 hx27) (giM cS hx27) (wM (fun _ => by rfl) _) ?_))))
   refine rg 2 rfl (rn (aSR (rg 2 rfl (bx ho24_2 fun x11 hx28 ho24_3 => rc1 rfl rfl rfl (dstrings_HasPrefix_l hx28) (rn (cS2 rfl ho24_3 (fun ho24_4 => ?_) fun ho24_4 => ?_))))))
   ·clear ho24_1 ho24_2 ho24_3
    refine aSR (rg 4 rfl (rs rfl rfl rfl rfl rfl rfl rfl (rv rfl rfl ?_)))
    obtain ⟨x12, hx29, ho24_5⟩ := bs ho24_4
    refine rt (ei' hx29) (rn (aT ?_))
    cases ho24_5
    have hq := hE25 _ rfl
    subst hq
    have h_9 := ksr h_8
    subst h_9
    exact rF
   clear ho24_1 ho24_2 ho24_3
   exact aK (inBlock_normal (aR (rg 2 rfl (rn (si ho24_4 ▸ lN [0])))))
  clear ho24
  refine awp_exit (xX ?_)
  cases ho24_1
  have hq := hE25 _ rfl
  subst hq
  exact cN [0]
 clear h_6 h_7
 rintro _ rfl
 have h_9 := ksl h_8
 exact aSR (rv rfl rfl (rs rfl rfl rfl rfl rfl rfl rfl (rv rfl rfl (rn (aT (si h_9 ▸ rF))))))
def dtoken_Cut (fu : Nat) (s1 : Str) : Option ((List ttokenToken) × Er) :=
  bif (decide ((s1.length : Int) > 500)) then some ([], (some 5)) else ((loopD (ε := Int × (List ttokenToken)) (τ := (List ttokenToken) ⊕ ((List ttokenToken) × Er)) (fun (((at1, out1)) : Int × (List ttokenToken)) => (bif (decide (at1 < (s1.length : Int))) then ((gi s1 at1).bind fun c1 => bif ((c1.toNat : Int) == 32) then some (Sum.inl (W (at1 + 1), out1)) else ((gsl s1 at1 (s1.length : Int)).bind fun s2 => (dtoken_one fu s2).bind fun n1 => bif (n1.2 == 0) then some (Sum.inr (Sum.inr ([], (some 2)))) else ((ap out1 [(ttokenToken.mk n1.1.Kind at1 n1.1.N n1.1.S)]).bind fun out4 => some (Sum.inl (W (at1 + n1.2), out4))))) else some (Sum.inr (Sum.inl out1)))) fu (0, [])).bind fun o => kS o fun (out3 : List ttokenToken) => some (out3, none))
theorem dtoken_Cut_l {fu : Nat} {s1 : Str} {r : (List ttokenToken) × Er} (h : dtoken_Cut fu s1 = some r) : PCall Tryz.prog 77 [.str (sB s1)] (· = .tup [.sl (r.1.map c_ttokenToken), .err 55 r.2]) := by
 rw [dtoken_Cut] at h
 refine pB_ Tryz.func77 ?_
 refine aSR (rg 2 rfl (rn (aS (aSR (rg 3 rfl (rn (cS2 rfl h (fun h_1 => ?_) fun h_1 => ?_)))))))
 ·clear h
  exact aSR (rg 3 rfl (rn (awp_conv (fun _ _ _ _ _ hi => err_slot 55 3 (some 5) rfl hi) (aT (si h_1 ▸ rF)))))
 clear h
 refine aK (aSR (rv rfl rfl (rn (aS (aSR (rv rfl rfl (rn (awp_conv (fun _ _ _ _ _ hi => nilS_slot false 4 4 rfl hi) (bx h_1 fun e1 hl2 h_2 => awp_cut1 (fun x => Sum.inl x = e1) (fun (out3 : List ttokenToken) => ⟨[(4, .own 0)], [], [(0, .row 4 (out3.map c_ttokenToken))], 1⟩) ?_ ?_)))))))))
 ·clear h_1
  refine aB (awp_loopD hl2 (fun (((at1, out1)) : Int × (List ttokenToken)) => ⟨[(0, .str (sB s1)), (4, .own 0), (5, .int .i64 at1)], [], [(0, .row 4 (out1.map c_ttokenToken))], 1⟩) [0] rfl zs ?_)
  intro v o5 ho3 hE4
  obtain ⟨at1, out1⟩ := v
  refine ch (aS (aSR (rg 4 rfl (rn (cS2 rfl ho3 (fun ho3_1 => ?_) fun ho3_1 => ?_)))))
  ·clear ho3
   refine aK (aB (aS (aSR (rg 2 rfl (bx ho3_1 fun c1 hx6 ho3_2 => rV rfl (va_sidx rfl rfl rfl rfl hx6) (rv rfl rfl (rn (cS2 rfl ho3_2 (fun ho3_3 => ?_) fun ho3_3 => ?_))))))))
   ·clear ho3_1 ho3_2
    refine aSR (rg 3 rfl (rn (awp_exit (xX ?_))))
    exact si ho3_3 ▸ lN [0]
   clear ho3_1 ho3_2
   refine aK (aSR (rg 2 rfl (bx ho3_3 fun s2 hx7 ho3_4 => rV rfl (va_ssub rfl rfl rfl ⟨_, rfl⟩ rfl hx7) (bx ho3_4 fun n1 hx8 ho3_5 => rc1 rfl rfl rfl (dtoken_one_l hx8) (rg 3 rfl (ra rfl rfl rfl (rs rfl rfl rfl rfl rfl rfl rfl (rv rfl rfl (rn (aS (aSR (rg 2 rfl (rn (cS2 rfl ho3_5 (fun ho3_6 => ?_) fun ho3_6 => ?_))))))))))))))
   ·clear ho3_3 ho3_4 ho3_5
    refine aSR (rg 3 rfl (rn (awp_conv (fun _ _ _ _ _ hi => err_slot 55 3 (some 2) rfl hi) (aT ?_))))
    cases ho3_6
    have hq := hE4 _ rfl
    subst hq
    have h_3 := ksr h_2
    subst h_3
    exact rF
   clear ho3_3 ho3_4 ho3_5
   refine aK (aSR (rg 2 rfl (rs rfl rfl rfl rfl rfl rfl rfl (rn (aR (rg 2 rfl (rbs false rfl rfl rfl rfl rfl rfl rfl rfl rfl rfl (bx ho3_6 fun out4 hx9 ho3_7 => rap false (z := 4) (xs := out1.map c_ttokenToken) (ys := [(ttokenToken.mk n1.1.Kind at1 n1.1.N n1.1.S)].map c_ttokenToken) rfl rfl rfl rfl rfl rfl rfl (.own rfl rfl) (.sl rfl rfl rfl) (wM (fun _ => by rfl) _) (oM (fun _ => by rfl) _) (apB c_ttokenToken rfl hx9) rfl ?_))))))))
   exact rk (congrArg (Kind.row _) (apM c_ttokenToken hx9)) (rg 5 rfl (rn (inBlock_normal (si ho3_7 ▸ lN [3]))))
  clear ho3
  refine awp_exit (xX ?_)
  cases ho3_1
  have hq := hE4 _ rfl
  subst hq
  exact cN [0]
 clear h_1
 rintro out3 rfl
 have h_3 := ksl h_2
 exact aSR (rg 3 rfl (rn (awp_conv (fun _ _ _ _ _ hi => err_slot 55 3 none rfl hi) (aT (si h_3 ▸ rF)))))
end
end Go.Proofs.YtbkomicjhfldmaaGreatDoor
namespace Go.Proofs.YtbkomicjhfldmaaGreatDoor
open Go.Pv
set_option maxRecDepth 100000
set_option maxHeartbeats 4000000
set_option linter.unusedSimpArgs false
set_option linter.unusedVariables false
set_option linter.unusedSectionVars false
structure tfilterparser where
  L : List ttokenToken
  Bad : Bool
def dslices_IndexFunc_Filter (fu : Nat) (s1 : List tFilter) (f1 : tFilter → Option Bool) : Option Int :=
  (loopD (ε := Int) (τ := Unit ⊕ Int) (fun (x1 : Int) => (bif (decide (x1 < (s1.length : Int))) then ((gi s1 x1).bind fun x3 => match x3 with | .mk kind1 name1 op1 vals1 l1 => (f1 (tFilter.mk kind1 name1 op1 vals1 l1)).bind fun x4 => bif x4 then some (Sum.inr (Sum.inr x1)) else some (Sum.inl (W (x1 + 1)))) else some (Sum.inr (Sum.inl ())))) fu 0).bind fun o => kS o fun (_ : Unit) => some (-1)
section
attribute [local irreducible] awp aops DP PCall ACall Decidable.decide
theorem dslices_IndexFunc_Filter_l {fu : Nat} {s1 : List tFilter} {f1 : tFilter → Option Bool} {r : Int} {k_f1 : FuncId} {cs_f1 : List AV} (hl_f1 : Cl cs_f1) (hf_f1 : ∀ {a0 r}, f1 a0 = some r → PCall Tryz.prog k_f1 ([.agg (c_tFilter a0)] ++ cs_f1) (· = .bool r)) (h : dslices_IndexFunc_Filter fu s1 f1 = some r) : PCall Tryz.prog 153 [.sl (cs_tFilter s1), .fn k_f1 cs_f1] (· = .int .i64 r) := by
 rw [dslices_IndexFunc_Filter] at h
 refine pB_ Tryz.func153 ?_
 refine aSR (rv rfl rfl (rn (aS (aSR (rg 2 rfl (rt ((lM_tFilter s1)) (rv rfl rfl (rn (bx h fun e1 hl2 h_1 => awp_cut1 (fun x => Sum.inl x = e1) (fun (_ : Unit) => ⟨[], [], [], 0⟩) ?_ ?_)))))))))
 ·clear h
  refine aB (awp_loopD hl2 (fun (x1 : Int) => ⟨[(0, .sl (cs_tFilter s1)), (1, .fn k_f1 cs_f1), (7, .int .i64 (s1.length : Int)), (8, .int .i64 x1)], [], [], 0⟩) [] rfl ⟨rfl, rfl, zA rfl rfl rfl (zA rfl (AV.ren_closed (.fn _ _) hl_f1.lim).symm (limL_mono (Nat.zero_le _) _ hl_f1.lim) (zA rfl rfl rfl (zA rfl rfl rfl (trivial)))), trivial, trivial⟩ ?_)
  intro x1 o5 ho3 hE4
  refine ch (aSR (rv rfl rfl (rn (aS (cS2 rfl ho3 (fun ho3_1 => ?_) fun ho3_1 => ?_)))))
  ·clear ho3
   refine aK (aS (aB (aSR (rg 2 rfl (rn (aSR (rv' rfl rfl (rg 2 rfl (bx ho3_1 fun x3 hx6 ho3_2 => ri rfl rfl rfl rfl rfl rfl (gi0 hx6) (giM_tFilter hx6) (wM_tFilter _) ?_)))))))))
   obtain ⟨kind1, name1, op1, vals1, l1⟩ := x3
   refine rv rfl rfl (bx ho3_2 fun x4 hx7 ho3_3 => rcf rfl rfl hl_f1 rfl (hf_f1 hx7) (rn (cS2 rfl ho3_3 (fun ho3_4 => ?_) fun ho3_4 => ?_)))
   ·clear ho3_1 ho3_2 ho3_3
    refine aSR (rg 2 rfl (rn (aT ?_)))
    cases ho3_4
    have hq := hE4 _ rfl
    subst hq
    have h_2 := ksr h_1
    subst h_2
    exact rF
   clear ho3_1 ho3_2 ho3_3
   refine aK (inBlock_normal (aR (rg 2 rfl (rn ?_))))
   cases ho3_4
   exact lp_n [] rfl rfl ⟨rfl, rfl, zA rfl rfl rfl (zA rfl (AV.ren_closed (.fn _ _) hl_f1.lim).symm (limL_mono (Nat.zero_le _) _ hl_f1.lim) (zA rfl rfl rfl (zA rfl rfl rfl (trivial)))), trivial, trivial⟩
  clear ho3
  refine awp_exit (xX ?_)
  cases ho3_1
  have hq := hE4 _ rfl
  subst hq
  exact cN []
 clear h
 rintro _ rfl
 have h_2 := ksl h_1
 exact aSR (rv rfl rfl (rn (aT (si h_2 ▸ rF))))
def dslices_ContainsFunc_Filter (fu : Nat) (s1 : List tFilter) (f1 : tFilter → Option Bool) : Option Bool :=
  (dslices_IndexFunc_Filter fu s1 f1).bind fun x1 => some (decide (x1 ≥ 0))
theorem dslices_ContainsFunc_Filter_l {fu : Nat} {s1 : List tFilter} {f1 : tFilter → Option Bool} {r : Bool} {k_f1 : FuncId} {cs_f1 : List AV} (hl_f1 : Cl cs_f1) (hf_f1 : ∀ {a0 r}, f1 a0 = some r → PCall Tryz.prog k_f1 ([.agg (c_tFilter a0)] ++ cs_f1) (· = .bool r)) (h : dslices_ContainsFunc_Filter fu s1 f1 = some r) : PCall Tryz.prog 103 [.sl (cs_tFilter s1), .fn k_f1 cs_f1] (· = .bool r) := by
 rw [dslices_ContainsFunc_Filter] at h
 refine pB_ Tryz.func103 ?_
 exact aSR (rv rfl rfl (rn (aSR (rv rfl rfl (rv' rfl rfl (bx h fun x1 hx1 h_1 => rcE rfl rfl (congrArg (fun z => ([.sl (cs_tFilter s1), .fn k_f1 z] : List AV)) (hl_f1.snap _)) (by simp only [limL, AV.lim, hl_f1.lim, Bool.and_true, Bool.true_and]; try rfl) (dslices_IndexFunc_Filter_l hl_f1 hf_f1 hx1) (rg 2 rfl (rn (aT (si h_1 ▸ rF))))))))))
def dslices_IndexFunc_Attr (fu : Nat) (s1 : List tAttr) (f1 : tAttr → Option Bool) : Option Int :=
  (loopD (ε := Int) (τ := Unit ⊕ Int) (fun (x1 : Int) => (bif (decide (x1 < (s1.length : Int))) then ((gi s1 x1).bind fun x3 => (f1 x3).bind fun x4 => bif x4 then some (Sum.inr (Sum.inr x1)) else some (Sum.inl (W (x1 + 1)))) else some (Sum.inr (Sum.inl ())))) fu 0).bind fun o => kS o fun (_ : Unit) => some (-1)
theorem dslices_IndexFunc_Attr_l {fu : Nat} {s1 : List tAttr} {f1 : tAttr → Option Bool} {r : Int} {k_f1 : FuncId} {cs_f1 : List AV} (hl_f1 : Cl cs_f1) (hf_f1 : ∀ {a0 r}, f1 a0 = some r → PCall Tryz.prog k_f1 ([.agg [.str (sB a0.Name), .bool a0.Text, .int .i64 a0.N, .str (sB a0.S)]] ++ cs_f1) (· = .bool r)) (h : dslices_IndexFunc_Attr fu s1 f1 = some r) : PCall Tryz.prog 210 [.sl (s1.map c_tAttr), .fn k_f1 cs_f1] (· = .int .i64 r) := by
 rw [dslices_IndexFunc_Attr] at h
 refine pB_ Tryz.func210 ?_
 refine aSR (rv rfl rfl (rn (aS (aSR (rg 2 rfl (rt ((lM c_tAttr s1)) (rv rfl rfl (rn (bx h fun e1 hl2 h_1 => awp_cut1 (fun x => Sum.inl x = e1) (fun (_ : Unit) => ⟨[], [], [], 0⟩) ?_ ?_)))))))))
 ·clear h
  refine aB (awp_loopD hl2 (fun (x1 : Int) => ⟨[(0, .sl (s1.map c_tAttr)), (1, .fn k_f1 cs_f1), (7, .int .i64 (s1.length : Int)), (8, .int .i64 x1)], [], [], 0⟩) [] rfl ⟨rfl, rfl, zA rfl rfl rfl (zA rfl (AV.ren_closed (.fn _ _) hl_f1.lim).symm (limL_mono (Nat.zero_le _) _ hl_f1.lim) (zA rfl rfl rfl (zA rfl rfl rfl (trivial)))), trivial, trivial⟩ ?_)
  intro x1 o5 ho3 hE4
  refine ch (aSR (rv rfl rfl (rn (aS (cS2 rfl ho3 (fun ho3_1 => ?_) fun ho3_1 => ?_)))))
  ·clear ho3
   refine aK (aS (aB (aSR (rg 2 rfl (rn (aSR (rv' rfl rfl (rg 2 rfl (bx ho3_1 fun x3 hx6 ho3_2 => ri rfl rfl rfl rfl rfl rfl (gi0 hx6) (giM c_tAttr hx6) (wM (fun _ => by rfl) _) ?_)))))))))
   refine rv rfl rfl (bx ho3_2 fun x4 hx7 ho3_3 => rcf rfl rfl hl_f1 rfl (hf_f1 hx7) (rn (cS2 rfl ho3_3 (fun ho3_4 => ?_) fun ho3_4 => ?_)))
   ·clear ho3_1 ho3_2 ho3_3
    refine aSR (rg 2 rfl (rn (aT ?_)))
    cases ho3_4
    have hq := hE4 _ rfl
    subst hq
    have h_2 := ksr h_1
    subst h_2
    exact rF
   clear ho3_1 ho3_2 ho3_3
   refine aK (inBlock_normal (aR (rg 2 rfl (rn ?_))))
   cases ho3_4
   exact lp_n [] rfl rfl ⟨rfl, rfl, zA rfl rfl rfl (zA rfl (AV.ren_closed (.fn _ _) hl_f1.lim).symm (limL_mono (Nat.zero_le _) _ hl_f1.lim) (zA rfl rfl rfl (zA rfl rfl rfl (trivial)))), trivial, trivial⟩
  clear ho3
  refine awp_exit (xX ?_)
  cases ho3_1
  have hq := hE4 _ rfl
  subst hq
  exact cN []
 clear h
 rintro _ rfl
 have h_2 := ksl h_1
 exact aSR (rv rfl rfl (rn (aT (si h_2 ▸ rF))))
def dslices_ContainsFunc_Attr (fu : Nat) (s1 : List tAttr) (f1 : tAttr → Option Bool) : Option Bool :=
  (dslices_IndexFunc_Attr fu s1 f1).bind fun x1 => some (decide (x1 ≥ 0))
theorem dslices_ContainsFunc_Attr_l {fu : Nat} {s1 : List tAttr} {f1 : tAttr → Option Bool} {r : Bool} {k_f1 : FuncId} {cs_f1 : List AV} (hl_f1 : Cl cs_f1) (hf_f1 : ∀ {a0 r}, f1 a0 = some r → PCall Tryz.prog k_f1 ([.agg [.str (sB a0.Name), .bool a0.Text, .int .i64 a0.N, .str (sB a0.S)]] ++ cs_f1) (· = .bool r)) (h : dslices_ContainsFunc_Attr fu s1 f1 = some r) : PCall Tryz.prog 159 [.sl (s1.map c_tAttr), .fn k_f1 cs_f1] (· = .bool r) := by
 rw [dslices_ContainsFunc_Attr] at h
 refine pB_ Tryz.func159 ?_
 exact aSR (rv rfl rfl (rn (aSR (rv rfl rfl (rv' rfl rfl (bx h fun x1 hx1 h_1 => rcE rfl rfl (congrArg (fun z => ([.sl (s1.map c_tAttr), .fn k_f1 z] : List AV)) (hl_f1.snap _)) (by simp only [limL, AV.lim, hl_f1.lim, Bool.and_true, Bool.true_and]; try rfl) (dslices_IndexFunc_Attr_l hl_f1 hf_f1 hx1) (rg 2 rfl (rn (aT (si h_1 ▸ rF))))))))))
def dslices_IndexFunc_byte (fu : Nat) (s1 : Str) (f1 : Int → Option Bool) : Option Int :=
  (loopD (ε := Int) (τ := Unit ⊕ Int) (fun (x1 : Int) => (bif (decide (x1 < (s1.length : Int))) then ((gi s1 x1).bind fun x3 => (f1 (x3.toNat : Int)).bind fun x4 => bif x4 then some (Sum.inr (Sum.inr x1)) else some (Sum.inl (W (x1 + 1)))) else some (Sum.inr (Sum.inl ())))) fu 0).bind fun o => kS o fun (_ : Unit) => some (-1)
theorem dslices_IndexFunc_byte_l {fu : Nat} {s1 : Str} {f1 : Int → Option Bool} {r : Int} {k_f1 : FuncId} {cs_f1 : List AV} (hl_f1 : Cl cs_f1) (hf_f1 : ∀ {a0 r}, f1 a0 = some r → PCall Tryz.prog k_f1 ([.int .u8 a0] ++ cs_f1) (· = .bool r)) (h : dslices_IndexFunc_byte fu s1 f1 = some r) : PCall Tryz.prog 307 [.sl (s1.map cU8), .fn k_f1 cs_f1] (· = .int .i64 r) := by
 rw [dslices_IndexFunc_byte] at h
 refine pB_ Tryz.func307 ?_
 refine aSR (rv rfl rfl (rn (aS (aSR (rg 2 rfl (rt ((lM cU8 s1)) (rv rfl rfl (rn (bx h fun e1 hl2 h_1 => awp_cut1 (fun x => Sum.inl x = e1) (fun (_ : Unit) => ⟨[], [], [], 0⟩) ?_ ?_)))))))))
 ·clear h
  refine aB (awp_loopD hl2 (fun (x1 : Int) => ⟨[(0, .sl (s1.map cU8)), (1, .fn k_f1 cs_f1), (7, .int .i64 (s1.length : Int)), (8, .int .i64 x1)], [], [], 0⟩) [] rfl ⟨rfl, rfl, zA rfl rfl rfl (zA rfl (AV.ren_closed (.fn _ _) hl_f1.lim).symm (limL_mono (Nat.zero_le _) _ hl_f1.lim) (zA rfl rfl rfl (zA rfl rfl rfl (trivial)))), trivial, trivial⟩ ?_)
  intro x1 o5 ho3 hE4
  refine ch (aSR (rv rfl rfl (rn (aS (cS2 rfl ho3 (fun ho3_1 => ?_) fun ho3_1 => ?_)))))
  ·clear ho3
   refine aK (aS (aB (aSR (rg 2 rfl (rn (aSR (rv' rfl rfl (rg 2 rfl (bx ho3_1 fun x3 hx6 ho3_2 => ri rfl rfl rfl rfl rfl rfl (gi0 hx6) (giM cU8 hx6) (wM (fun _ => by rfl) _) ?_)))))))))
   refine rv rfl rfl (bx ho3_2 fun x4 hx7 ho3_3 => rcf rfl rfl hl_f1 rfl (hf_f1 hx7) (rn (cS2 rfl ho3_3 (fun ho3_4 => ?_) fun ho3_4 => ?_)))
   ·clear ho3_1 ho3_2 ho3_3
    refine aSR (rg 2 rfl (rn (aT ?_)))
    cases ho3_4
    have hq := hE4 _ rfl
    subst hq
    have h_2 := ksr h_1
    subst h_2
    exact rF
   clear ho3_1 ho3_2 ho3_3
   refine aK (inBlock_normal (aR (rg 2 rfl (rn ?_))))
   cases ho3_4
   exact lp_n [] rfl rfl ⟨rfl, rfl, zA rfl rfl rfl (zA rfl (AV.ren_closed (.fn _ _) hl_f1.lim).symm (limL_mono (Nat.zero_le _) _ hl_f1.lim) (zA rfl rfl rfl (zA rfl rfl rfl (trivial)))), trivial, trivial⟩
  clear ho3
  refine awp_exit (xX ?_)
  cases ho3_1
  have hq := hE4 _ rfl
  subst hq
  exact cN []
 clear h
 rintro _ rfl
 have h_2 := ksl h_1
 exact aSR (rv rfl rfl (rn (aT (si h_2 ▸ rF))))
def dslices_ContainsFunc_byte (fu : Nat) (s1 : Str) (f1 : Int → Option Bool) : Option Bool :=
  (dslices_IndexFunc_byte fu s1 f1).bind fun x1 => some (decide (x1 ≥ 0))
theorem dslices_ContainsFunc_byte_l {fu : Nat} {s1 : Str} {f1 : Int → Option Bool} {r : Bool} {k_f1 : FuncId} {cs_f1 : List AV} (hl_f1 : Cl cs_f1) (hf_f1 : ∀ {a0 r}, f1 a0 = some r → PCall Tryz.prog k_f1 ([.int .u8 a0] ++ cs_f1) (· = .bool r)) (h : dslices_ContainsFunc_byte fu s1 f1 = some r) : PCall Tryz.prog 301 [.sl (s1.map cU8), .fn k_f1 cs_f1] (· = .bool r) := by
 rw [dslices_ContainsFunc_byte] at h
 refine pB_ Tryz.func301 ?_
 exact aSR (rv rfl rfl (rn (aSR (rv rfl rfl (rv' rfl rfl (bx h fun x1 hx1 h_1 => rcE rfl rfl (congrArg (fun z => ([.sl (s1.map cU8), .fn k_f1 z] : List AV)) (hl_f1.snap _)) (by simp only [limL, AV.lim, hl_f1.lim, Bool.and_true, Bool.true_and]; try rfl) (dslices_IndexFunc_byte_l hl_f1 hf_f1 hx1) (rg 2 rfl (rn (aT (si h_1 ▸ rF))))))))))
def dslices_Index_int (fu : Nat) (s1 : List Int) (v1 : Int) : Option Int :=
  (loopD (ε := Int) (τ := Unit ⊕ Int) (fun (x1 : Int) => (bif (decide (x1 < (s1.length : Int))) then ((gi s1 x1).bind fun x3 => bif (v1 == x3) then some (Sum.inr (Sum.inr x1)) else some (Sum.inl (W (x1 + 1)))) else some (Sum.inr (Sum.inl ())))) fu 0).bind fun o => kS o fun (_ : Unit) => some (-1)
theorem dslices_Index_int_l {fu : Nat} {s1 : List Int} {v1 : Int} {r : Int} (h : dslices_Index_int fu s1 v1 = some r) : PCall Tryz.prog 299 [.sl (s1.map (cI .i64)), .int .i64 v1] (· = .int .i64 r) := by
 rw [dslices_Index_int] at h
 refine pB_ Tryz.func299 ?_
 refine aSR (rv rfl rfl (rn (aS (aSR (rg 2 rfl (rt ((lM (cI .i64) s1)) (rv rfl rfl (rn (bx h fun e1 hl2 h_1 => awp_cut1 (fun x => Sum.inl x = e1) (fun (_ : Unit) => ⟨[], [], [], 0⟩) ?_ ?_)))))))))
 ·clear h
  refine aB (awp_loopD hl2 (fun (x1 : Int) => ⟨[(0, .sl (s1.map (cI .i64))), (1, .int .i64 v1), (7, .int .i64 (s1.length : Int)), (8, .int .i64 x1)], [], [], 0⟩) [] rfl zs ?_)
  intro x1 o5 ho3 hE4
  refine ch (aSR (rv rfl rfl (rn (aS (cS2 rfl ho3 (fun ho3_1 => ?_) fun ho3_1 => ?_)))))
  ·clear ho3
   refine aK (aS (aB (aSR (rg 2 rfl (rn (aSR (rg 3 rfl (bx ho3_1 fun x3 hx6 ho3_2 => ri rfl rfl rfl rfl rfl rfl (gi0 hx6) (giM (cI .i64) hx6) (wM (fun _ => by rfl) _) ?_))))))))
   refine rg 2 rfl (rn (cS2 rfl ho3_2 (fun ho3_3 => ?_) fun ho3_3 => ?_))
   ·clear ho3_1 ho3_2
    refine aSR (rg 2 rfl (rn (aT ?_)))
    cases ho3_3
    have hq := hE4 _ rfl
    subst hq
    have h_2 := ksr h_1
    subst h_2
    exact rF
   clear ho3_1 ho3_2
   exact aK (inBlock_normal (aR (rg 2 rfl (rn (si ho3_3 ▸ lN [])))))
  clear ho3
  refine awp_exit (xX ?_)
  cases ho3_1
  have hq := hE4 _ rfl
  subst hq
  exact cN []
 clear h
 rintro _ rfl
 have h_2 := ksl h_1
 exact aSR (rv rfl rfl (rn (aT (si h_2 ▸ rF))))
def dslices_Contains_int (fu : Nat) (s1 : List Int) (v1 : Int) : Option Bool :=
  (dslices_Index_int fu s1 v1).bind fun x1 => some (decide (x1 ≥ 0))
theorem dslices_Contains_int_l {fu : Nat} {s1 : List Int} {v1 : Int} {r : Bool} (h : dslices_Contains_int fu s1 v1 = some r) : PCall Tryz.prog 278 [.sl (s1.map (cI .i64)), .int .i64 v1] (· = .bool r) := by
 rw [dslices_Contains_int] at h
 refine pB_ Tryz.func278 ?_
 exact aSR (rv rfl rfl (rn (aSR (rg 2 rfl (bx h fun x1 hx1 h_1 => rc1 rfl rfl rfl (dslices_Index_int_l hx1) (rg 2 rfl (rn (aT (si h_1 ▸ rF)))))))))
def dfilter_text_1 (fu : Nat) (c1 : Int) : Option Bool :=
  bif (decide (c1 < 32)) then some true else (bif (decide (c1 > 126)) then some true else some (c1 == 34))
theorem dfilter_text_1_l {fu : Nat} {c1 : Int} {r : Bool} (h : dfilter_text_1 fu c1 = some r) : PCall Tryz.prog 300 [.int .u8 c1] (· = .bool r) := by
 rw [dfilter_text_1] at h
 refine pB_ Tryz.func300 ?_
 refine aSR (rv rfl rfl (rn (aSR (rg 3 rfl (gF2 rfl rfl rfl rfl rfl h (fun h_1 => ?_) fun h_1 => ?_)))))
 ·clear h
  refine rg 4 rfl (gF2 rfl rfl rfl rfl rfl h_1 (fun h_2 => ?_) fun h_2 => ?_)
  ·clear h_1
   exact rg 4 rfl (rn (aT (si h_2 ▸ rF)))
  clear h_1
  exact rg 3 rfl (rn (aT (si h_2 ▸ rF)))
 clear h
 exact rg 7 rfl (rn (aT (si h_1 ▸ rF)))
def dfilter_text (fu : Nat) (s1 : Str) : Option Bool :=
  bif (decide ((s1.length : Int) ≤ 200)) then ((dslices_ContainsFunc_byte fu s1 (fun x0 => dfilter_text_1 fu x0)).bind fun x1 => some (!x1)) else some false
theorem dfilter_text_l {fu : Nat} {s1 : Str} {r : Bool} (h : dfilter_text fu s1 = some r) : PCall Tryz.prog 279 [.str (sB s1)] (· = .bool r) := by
 rw [dfilter_text] at h
 refine pB_ Tryz.func279 ?_
 refine aSR (rv rfl rfl (rn (aSR (rv rfl rfl (rn (aSR (rg 4 rfl (gT2 rfl rfl rfl rfl rfl h (fun h_1 => ?_) fun h_1 => ?_))))))))
 ·clear h
  exact rv rfl rfl (gy rfl rfl rfl (rN rfl (na_bytes false rfl rfl rfl rfl rfl rfl rfl) (rg 1 rfl (gy rfl rfl rfl (bx h_1 fun x1 hx1 h_2 => rc1 rfl rfl rfl (dslices_ContainsFunc_byte_l ⟨rfl, fun _ => rfl⟩ (fun hq => dfilter_text_1_l hq) hx1) (rg 3 rfl (rn (aT (si h_2 ▸ rF)))))))))
 clear h
 exact rg 6 rfl (rn (aT (si h_1 ▸ rF)))
def dfilter_value (fu : Nat) (a1 : tAttr) : Option Bool :=
  bif a1.Text then ((bif (a1.Name == []) then (bif (a1.N == 0) then ((dfilter_text fu a1.S).bind fun x2 => some x2) else some false) else some false : Option Bool).bind fun (x1 : Bool) => some x1) else (bif (a1.Name == []) then some (a1.S == []) else some false)
theorem dfilter_value_l {fu : Nat} {a1 : tAttr} {r : Bool} (h : dfilter_value fu a1 = some r) : PCall Tryz.prog 254 [.agg [.str (sB a1.Name), .bool a1.Text, .int .i64 a1.N, .str (sB a1.S)]] (· = .bool r) := by
 rw [dfilter_value] at h
 refine pB_ Tryz.func254 ?_
 refine aSR (rb rfl rfl (rv rfl rfl (rn (aS (aSR (rg 2 rfl (rn (cS2 rfl h (fun h_1 => ?_) fun h_1 => ?_))))))))
 ·clear h
  refine aS (bx h_1 fun o1 ho2 h_2 => awp_cut1 (fun x => x = o1) (fun (x1 : Bool) => ⟨[(2, .bool x1)], [], [], 0⟩) ?_ ?_)
  ·clear h_1
   refine aR (rg 3 rfl (rt (sEq a1.Name []) (rv rfl rfl (gT2 rfl rfl rfl rfl rfl ho2 (fun ho2_1 => ?_) fun ho2_1 => ?_))))
   ·clear ho2
    refine rg 5 rfl (gT2 rfl rfl rfl rfl rfl ho2_1 (fun ho2_2 => ?_) fun ho2_2 => ?_)
    ·clear ho2_1
     exact rg 2 rfl (gy rfl rfl rfl (bx ho2_2 fun x2 hx3 ho2_3 => rc1 rfl rfl rfl (dfilter_text_l hx3) (rg 2 rfl (rn (si ho2_3 ▸ cN [])))))
    clear ho2_1
    exact rg 4 rfl (rn (si ho2_2 ▸ cN []))
   clear ho2
   exact rg 9 rfl (rn (si ho2_1 ▸ cN []))
  clear h_1
  rintro x1 rfl
  exact ch (aT (si h_2 ▸ rF))
 clear h
 refine aK (aSR (rg 3 rfl (rt (sEq a1.Name []) (rv rfl rfl (gT2 rfl rfl rfl rfl rfl h_1 (fun h_2 => ?_) fun h_2 => ?_)))))
 ·clear h_1
  exact rg 3 rfl (rt (sEq a1.S []) (rg 2 rfl (rn (aT (si h_2 ▸ rF)))))
 clear h_1
 exact rg 4 rfl (rn (aT (si h_2 ▸ rF)))
def dfilter_name (fu : Nat) (s1 : Str) : Option Bool :=
  bif (decide ((s1.length : Int) > 20)) then some false else ((dtoken_Cut fu s1).bind fun l1 => bif l1.2.isNone then (bif ((l1.1.length : Int) == 1) then ((gi l1.1 0).bind fun x1 => bif (x1.Kind == 1) then ((gi l1.1 0).bind fun x2 => some (x2.S == s1)) else some false) else some false) else some false)
theorem dfilter_name_l {fu : Nat} {s1 : Str} {r : Bool} (h : dfilter_name fu s1 = some r) : PCall Tryz.prog 255 [.str (sB s1)] (· = .bool r) := by
 rw [dfilter_name] at h
 refine pB_ Tryz.func255 ?_
 refine aSR (rv rfl rfl (rn (aS (aSR (rg 3 rfl (rn (cS2 rfl h (fun h_1 => ?_) fun h_1 => ?_)))))))
 ·clear h
  exact aSR (rv rfl rfl (rn (aT (si h_1 ▸ rF))))
 clear h
 refine aK (aSR (rv rfl rfl (bx h_1 fun l1 hx1 h_2 => rc1 rfl rfl rfl (dtoken_Cut_l hx1) (rg 5 rfl (rn (aSR (rv rfl rfl (rV rfl (va_enil rfl rfl rfl) (rv rfl rfl (gT2 rfl rfl rfl rfl rfl h_2 (fun h_3 => ?_) fun h_3 => ?_))))))))))
 ·clear h_1 h_2
  refine rg 2 rfl (rt ((lM c_ttokenToken l1.1)) (rg 3 rfl (gT2 rfl rfl rfl rfl rfl h_3 (fun h_4 => ?_) fun h_4 => ?_)))
  ·clear h_3
   refine rv rfl rfl (gy rfl rfl rfl (bx h_4 fun x1 hx2 h_5 => ri rfl rfl rfl rfl rfl rfl (gi0 hx2) (giM c_ttokenToken hx2) (wM (fun _ => by rfl) _) ?_))
   refine rg 5 rfl (gT2 rfl rfl rfl rfl rfl h_5 (fun h_6 => ?_) fun h_6 => ?_)
   ·clear h_4 h_5
    refine rv rfl rfl (gy rfl rfl rfl (bx h_6 fun x2 hx3 h_7 => ri rfl rfl rfl rfl rfl rfl (gi0 hx3) (giM c_ttokenToken hx3) (wM (fun _ => by rfl) _) ?_))
    exact rg 4 rfl (rt (sEq x2.S s1) (rg 2 rfl (rn (aT (si h_7 ▸ rF)))))
   clear h_4 h_5
   exact rg 7 rfl (rn (aT (si h_6 ▸ rF)))
  clear h_3
  exact rg 14 rfl (rn (aT (si h_4 ▸ rF)))
 clear h_1 h_2
 exact rg 19 rfl (rn (aT (si h_3 ▸ rF)))
def dfilter_ops (fu : Nat)  : Option (List Str) :=
  some ([[60], [60, 61], [61], [33, 61], [62, 61], [62]])
theorem dfilter_ops_l {fu : Nat}  {r : List Str} (h : dfilter_ops fu  = some r) : PCall Tryz.prog 252 [] (· = .sl (r.map cS)) := by
 rw [dfilter_ops] at h
 refine pB_ Tryz.func252 ?_
 exact aSR (rv rfl rfl (rn (aSR (rbs false rfl rfl rfl rfl rfl rfl rfl rfl rfl rfl (rv rfl rfl (rn (aT (si h ▸ rF))))))))
def dfilter_leaf_1 (fu : Nat) (a1 : tAttr) (c1 : tFilter) : Option Bool :=
  match c1 with | .mk kind1 name1 op1 vals1 l1 => (dfilter_value fu a1).bind fun x1 => bif (!x1) then some true else ((gi vals1 0).bind fun x2 => (some (!(a1.Text == x2.Text))).bind fun x3 => some x3)
theorem dfilter_leaf_1_l {fu : Nat} {a1 : tAttr} {c1 : tFilter} {r : Bool} (h : dfilter_leaf_1 fu a1 c1 = some r) : PCall Tryz.prog 253 [.agg [.str (sB a1.Name), .bool a1.Text, .int .i64 a1.N, .str (sB a1.S)], .rd (c_tFilter c1)] (· = .bool r) := by
 obtain ⟨kind1, name1, op1, vals1, l1⟩ := c1
 rw [dfilter_leaf_1] at h
 refine pB_ Tryz.func253 ?_
 refine aSR (rb rfl rfl (rv rfl rfl (rn (aS (dP_ 13 Tryz.mix (dv rfl rfl (fun _ => rfl) (bx h fun x1 hx1 h_1 => dc rfl rfl rfl rfl (fun _ => rfl) (fun _ => (dfilter_value_l hx1)) (dv rfl rfl (fun _ => rfl) (dv rfl rfl (fun _ => rfl) (dS2 rfl rfl h_1 (fun h_2 => ?_) fun h_2 => ?_))))))))))
 ·clear h h_1
  exact dno rfl rfl (dno rfl rfl (dno rfl rfl (dno rfl rfl (dno rfl rfl (dno rfl rfl (dno rfl rfl (dno rfl rfl (dv rfl rfl (fun _ => rfl) (dn (rv rfl rfl (rn (aT (si h_2 ▸ rF)))))))))))))
 clear h h_1
 refine dv rfl rfl (fun _ => rfl) (dv rfl rfl (fun _ => rfl) (dv rfl rfl (fun _ => rfl) (dv rfl rfl (fun _ => rfl) (bx h_2 fun x2 hx2 h_3 => di rfl rfl rfl rfl rfl (fun _ => rfl) rfl (gi0 hx2) (giM c_tAttr hx2) (wM (fun _ => by rfl) _) ?_))))
 refine dv rfl rfl (fun _ => rfl) (dv rfl rfl (fun _ => rfl) (dv rfl rfl (fun _ => rfl) (dv rfl rfl (fun _ => rfl) (dn (rv rfl rfl ?_)))))
 obtain ⟨x3, hx3, h_4⟩ := bs h_3
 exact rt (eb' hx3) (rn (aT (si h_4 ▸ rF)))
def dfilter_leaf (fu : Nat) (f1 : tFilter) : Option Bool :=
  match f1 with | .mk kind1 name1 op1 vals1 l1 => ((dfilter_name fu name1).bind fun x2 => bif (!x2) then some true else (bif (decide ((l1.length : Int) > 0)) then some true else (bif ((vals1.length : Int) == 0) then some true else ((dslices_ContainsFunc_Attr fu vals1 (fun x0 => dfilter_leaf_1 fu x0 (tFilter.mk kind1 name1 op1 vals1 l1))).bind fun x3 => some x3))) : Option Bool).bind fun (x1 : Bool) => (bif x1 then some false else (bif (kind1 == 4) then ((bif ((vals1.length : Int) == 1) then ((dfilter_ops fu ).bind fun x5 => (dslices_Contains_string fu x5 op1).bind fun x6 => some x6) else some false : Option Bool).bind fun (x4 : Bool) => some x4) else (bif (kind1 == 5) then ((bif ((vals1.length : Int) == 1) then ((gi vals1 0).bind fun x8 => bif x8.Text then some (op1 == []) else some false) else some false : Option Bool).bind fun (x7 : Bool) => some x7) else (bif (decide ((vals1.length : Int) ≤ 20)) then some (op1 == []) else some false))))
theorem dfilter_leaf_l {fu : Nat} {f1 : tFilter} {r : Bool} (h : dfilter_leaf fu f1 = some r) : PCall Tryz.prog 228 [.agg (c_tFilter f1)] (· = .bool r) := by
 obtain ⟨kind1, name1, op1, vals1, l1⟩ := f1
 rw [dfilter_leaf] at h
 refine pB_ Tryz.func228 ?_
 refine aSR (rb rfl rfl (rv rfl rfl (rn (aSR (rg 2 rfl (rn (aS (aS (bx h fun o1 ho2 h_1 => awp_cut1 (fun x => x = o1) (fun (x1 : Bool) => ⟨[(1, .ptr 0 0), (26, .bool x1)], [(0, 0, .int .i64 kind1), (0, 1, .str (sB name1)), (0, 2, .str (sB op1)), (0, 3, .sl (vals1.map c_tAttr)), (0, 4, .sl (cs_tFilter l1))], [], 1⟩) ?_ ?_)))))))))
 ·clear h
  refine aR (rg 2 rfl (bx ho2 fun x2 hx3 ho2_1 => rc1 rfl rfl rfl (dfilter_name_l hx3) (rg 2 rfl (gF2 rfl rfl rfl rfl rfl ho2_1 (fun ho2_2 => ?_) fun ho2_2 => ?_))))
  ·clear ho2 ho2_1
   refine rg 3 rfl (rt ((lM_tFilter l1)) (rg 3 rfl (gF2 rfl rfl rfl rfl rfl ho2_2 (fun ho2_3 => ?_) fun ho2_3 => ?_)))
   ·clear ho2_2
    refine rg 3 rfl (rt ((lM c_tAttr vals1)) (rg 3 rfl (gF2 rfl rfl rfl rfl rfl ho2_3 (fun ho2_4 => ?_) fun ho2_4 => ?_)))
    ·clear ho2_3
     exact rg 3 rfl (gy rfl rfl rfl (bx ho2_4 fun x3 hx4 ho2_5 => rf rfl rfl (dslices_ContainsFunc_Attr_l ⟨rfl, fun _ => rfl⟩ (fun {x0 r} (hq : dfilter_leaf_1 fu x0 (tFilter.mk kind1 name1 op1 vals1 l1) = some r) => have hz := dfilter_leaf_1_l hq; hz) hx4) rfl (rv rfl rfl (rn (si ho2_5 ▸ cN [0])))))
    clear ho2_3
    exact rg 4 rfl (rn (si ho2_4 ▸ cN [0]))
   clear ho2_2
   exact rg 10 rfl (rn (si ho2_3 ▸ cN [0]))
  clear ho2 ho2_1
  exact rg 16 rfl (rn (si ho2_2 ▸ cN [0]))
 clear h
 rintro x1 rfl
 refine ch (cS2 rfl h_1 (fun h_2 => ?_) fun h_2 => ?_)
 ·clear h_1
  exact aSR (rv rfl rfl (rn (aT (si h_2 ▸ rF))))
 clear h_1
 refine aK (aS (aSR (rg 2 rfl (rn (aB (aSR (rg 2 rfl (rn (cS2 rfl h_2 (fun h_3 => ?_) fun h_3 => ?_)))))))))
 ·clear h_2
  refine aS (bx h_3 fun o5 ho6 h_4 => awp_cut1 (fun x => x = o5) (fun (x4 : Bool) => ⟨[(2, .bool x4)], [], [], 0⟩) ?_ ?_)
  ·clear h_3
   refine dP_ 10 Tryz.mix (dv rfl rfl (fun _ => rfl) (dv rfl rfl (fun _ => rfl) (dv rfl rfl (fun _ => rfl) (dt ((lM c_tAttr vals1)) (dv rfl rfl (fun _ => rfl) (dv rfl rfl (fun _ => rfl) (dS2 rfl rfl ho6 (fun ho6_1 => ?_) fun ho6_1 => ?_)))))))
   ·clear ho6
    exact bx ho6_1 fun x5 hx7 ho6_2 => dc rfl rfl rfl rfl (fun _ => rfl) (fun _ => (dfilter_ops_l hx7)) (dv rfl rfl (fun _ => rfl) (dv rfl rfl (fun _ => rfl) (bx ho6_2 fun x6 hx8 ho6_3 => dc rfl rfl rfl rfl (fun _ => rfl) (fun _ => (dslices_Contains_string_l hx8)) (dv rfl rfl (fun _ => rfl) (dn (rv rfl rfl (rn (si ho6_3 ▸ cN []))))))))
   clear ho6
   exact dno rfl rfl (dno rfl rfl (dno rfl rfl (dno rfl rfl (dv rfl rfl (fun _ => rfl) (dn (rv rfl rfl (rn (si ho6_1 ▸ cN []))))))))
  clear h_3
  rintro x4 rfl
  exact ch (aT (si h_4 ▸ rF))
 clear h_2
 refine aSR (rg 2 rfl (rn (cS2 rfl h_3 (fun h_4 => ?_) fun h_4 => ?_)))
 ·clear h_3
  refine aS (bx h_4 fun o9 ho10 h_5 => awp_cut1 (fun x => x = o9) (fun (x7 : Bool) => ⟨[(2, .bool x7)], [], [], 0⟩) ?_ ?_)
  ·clear h_4
   refine aR (rg 3 rfl (rt ((lM c_tAttr vals1)) (rg 2 rfl (gT2 rfl rfl rfl rfl rfl ho10 (fun ho10_1 => ?_) fun ho10_1 => ?_))))
   ·clear ho10
    refine rg 2 rfl (gy rfl rfl rfl (bx ho10_1 fun x8 hx11 ho10_2 => ri rfl rfl rfl rfl rfl rfl (gi0 hx11) (giM c_tAttr hx11) (wM (fun _ => by rfl) _) ?_))
    refine rg 4 rfl (gT2 rfl rfl rfl rfl rfl ho10_2 (fun ho10_3 => ?_) fun ho10_3 => ?_)
    ·clear ho10_1 ho10_2
     exact rg 3 rfl (rt (sEq op1 []) (rg 2 rfl (rn (si ho10_3 ▸ cN []))))
    clear ho10_1 ho10_2
    exact rg 4 rfl (rn (si ho10_3 ▸ cN []))
   clear ho10
   exact rg 11 rfl (rn (si ho10_1 ▸ cN []))
  clear h_4
  rintro x7 rfl
  exact ch (aT (si h_5 ▸ rF))
 clear h_3
 refine aK (inBlock_normal (aSR (rg 3 rfl (rt ((lM c_tAttr vals1)) (rg 2 rfl (gT2 rfl rfl rfl rfl rfl h_4 (fun h_5 => ?_) fun h_5 => ?_))))))
 ·clear h_4
  exact rg 3 rfl (rt (sEq op1 []) (rg 2 rfl (rn (aT (si h_5 ▸ rF)))))
 clear h_4
 exact rg 4 rfl (rn (aT (si h_5 ▸ rF)))
def dfilter_own_1 (fu : Nat) (x1 : tFilter) (c1 : tFilter) : Option Bool :=
  match x1 with | .mk kind1 name1 op1 vals1 l1 => match c1 with | .mk kind2 name2 op2 vals2 l2 => some (kind1 == kind2)
theorem dfilter_own_1_l {fu : Nat} {x1 : tFilter} {c1 : tFilter} {r : Bool} (h : dfilter_own_1 fu x1 c1 = some r) : PCall Tryz.prog 227 [.agg (c_tFilter x1), .rd (c_tFilter c1)] (· = .bool r) := by
 obtain ⟨kind1, name1, op1, vals1, l1⟩ := x1
 obtain ⟨kind2, name2, op2, vals2, l2⟩ := c1
 rw [dfilter_own_1] at h
 refine pB_ Tryz.func227 ?_
 exact aSR (rb rfl rfl (rv rfl rfl (rn (aSR (rg 6 rfl (rn (aT (si h ▸ rF))))))))
def dfilter_own (fu : Nat) (f1 : tFilter) : Option Bool :=
  match f1 with | .mk kind1 name1 op1 vals1 l1 => (bif (name1 == []) then (bif (op1 == []) then ((some ((vals1.length : Int) == 0)).bind fun bare2 => some bare2) else some false) else some false : Option Bool).bind fun (bare1 : Bool) => ((bif (kind1 == 1) then some (kind1 == 1) else some (kind1 == 2) : Option Bool).bind fun (x1 : Bool) => (bif x1 then (bif bare1 then (bif (decide ((l1.length : Int) ≥ 2)) then ((dslices_ContainsFunc_Filter fu l1 (fun x0 => dfilter_own_1 fu x0 (tFilter.mk kind1 name1 op1 vals1 l1))).bind fun x2 => some (!x2)) else some false) else some false) else (bif (kind1 == 3) then (bif bare1 then ((some ((l1.length : Int) == 1)).bind fun x3 => some x3) else some false) else (bif (kind1 == 7) then (bif bare1 then ((some ((l1.length : Int) == 0)).bind fun x4 => some x4) else some false) else ((bif (kind1 == 4) then some (kind1 == 4) else (bif (kind1 == 5) then some (kind1 == 5) else some (kind1 == 6)) : Option Bool).bind fun (x5 : Bool) => (bif x5 then ((dfilter_leaf fu (tFilter.mk kind1 name1 op1 vals1 l1)).bind fun x6 => some x6) else some false))))))
theorem dfilter_own_l {fu : Nat} {f1 : tFilter} {r : Bool} (h : dfilter_own fu f1 = some r) : PCall Tryz.prog 182 [.agg (c_tFilter f1)] (· = .bool r) := by
 obtain ⟨kind1, name1, op1, vals1, l1⟩ := f1
 rw [dfilter_own] at h
 refine pB_ Tryz.func182 ?_
 refine aSR (rb rfl rfl (rv rfl rfl (rn (aSR (rg 2 rfl (rn (aS (bx h fun o1 ho2 h_1 => awp_cut1 (fun x => x = o1) (fun (bare1 : Bool) => ⟨[(1, .ptr 0 0), (3, .fn 227 [.ptr 0 0]), (4, .bool bare1)], [(0, 0, .int .i64 kind1), (0, 1, .str (sB name1)), (0, 2, .str (sB op1)), (0, 3, .sl (vals1.map c_tAttr)), (0, 4, .sl (cs_tFilter l1))], [], 1⟩) ?_ ?_))))))))
 ·clear h
  refine aR (rg 3 rfl (rt (sEq name1 []) (rv rfl rfl (gT2 rfl rfl rfl rfl rfl ho2 (fun ho2_1 => ?_) fun ho2_1 => ?_))))
  ·clear ho2
   refine rg 3 rfl (rt (sEq op1 []) (rg 2 rfl (gT2 rfl rfl rfl rfl rfl ho2_1 (fun ho2_2 => ?_) fun ho2_2 => ?_)))
   ·clear ho2_1
    refine rg 3 rfl (rt ((lM c_tAttr vals1)) (rg 3 rfl ?_))
    obtain ⟨bare2, hx3, ho2_3⟩ := bs ho2_2
    exact rt (eb' hx3) (rn (si ho2_3 ▸ cN [0]))
   clear ho2_1
   exact rg 5 rfl (rn (si ho2_2 ▸ cN [0]))
  clear ho2
  exact rg 10 rfl (rn (si ho2_1 ▸ cN [0]))
 clear h
 rintro bare1 rfl
 refine ch (aS (aSR (rg 2 rfl (rn (aB (aS (aSR (rg 2 rfl (rn (bx h_1 fun o4 ho5 h_2 => awp_cut1 (fun x => x = o4) (fun (x1 : Bool) => ⟨[(1, .ptr 0 0), (3, .fn 227 [.ptr 0 0]), (4, .bool bare1), (21, .int .i64 kind1), (22, .bool x1)], [(0, 0, .int .i64 kind1), (0, 1, .str (sB name1)), (0, 2, .str (sB op1)), (0, 3, .sl (vals1.map c_tAttr)), (0, 4, .sl (cs_tFilter l1))], [], 1⟩) ?_ ?_))))))))))
 ·clear h_1
  refine cS2 rfl ho5 (fun ho5_1 => ?_) fun ho5_1 => ?_
  ·clear ho5
   exact aK (si ho5_1 ▸ cN [0])
  clear ho5
  exact aR (rg 2 rfl (rn (si ho5_1 ▸ cN [0])))
 clear h_1
 rintro x1 rfl
 refine ch (cS2 rfl h_2 (fun h_3 => ?_) fun h_3 => ?_)
 ·clear h_2
  refine aSR (rg 2 rfl (gT2 rfl rfl rfl rfl rfl h_3 (fun h_4 => ?_) fun h_4 => ?_))
  ·clear h_3
   refine rg 3 rfl (rt ((lM_tFilter l1)) (rg 3 rfl (gT2 rfl rfl rfl rfl rfl h_4 (fun h_5 => ?_) fun h_5 => ?_)))
   ·clear h_4
    exact rg 3 rfl (gy rfl rfl rfl (bx h_5 fun x2 hx6 h_6 => rf rfl rfl (dslices_ContainsFunc_Filter_l ⟨rfl, fun _ => rfl⟩ (fun {x0 r} (hq : dfilter_own_1 fu x0 (tFilter.mk kind1 name1 op1 vals1 l1) = some r) => have hz := dfilter_own_1_l hq; hz) hx6) rfl (rg 3 rfl (rn (aT (si h_6 ▸ rF))))))
   clear h_4
   exact rg 6 rfl (rn (aT (si h_5 ▸ rF)))
  clear h_3
  exact rg 12 rfl (rn (aT (si h_4 ▸ rF)))
 clear h_2
 refine aSR (rg 2 rfl (rn (cS2 rfl h_3 (fun h_4 => ?_) fun h_4 => ?_)))
 ·clear h_3
  refine aSR (rg 2 rfl (gT2 rfl rfl rfl rfl rfl h_4 (fun h_5 => ?_) fun h_5 => ?_))
  ·clear h_4
   refine rg 3 rfl (rt ((lM_tFilter l1)) (rg 3 rfl ?_))
   obtain ⟨x3, hx7, h_6⟩ := bs h_5
   exact rt (eb' hx7) (rn (aT (si h_6 ▸ rF)))
  clear h_4
  exact rg 5 rfl (rn (aT (si h_5 ▸ rF)))
 clear h_3
 refine aSR (rg 2 rfl (rn (cS2 rfl h_4 (fun h_5 => ?_) fun h_5 => ?_)))
 ·clear h_4
  refine aSR (rg 2 rfl (gT2 rfl rfl rfl rfl rfl h_5 (fun h_6 => ?_) fun h_6 => ?_))
  ·clear h_5
   refine rg 3 rfl (rt ((lM_tFilter l1)) (rg 3 rfl ?_))
   obtain ⟨x4, hx8, h_7⟩ := bs h_6
   exact rt (eb' hx8) (rn (aT (si h_7 ▸ rF)))
  clear h_5
  exact rg 5 rfl (rn (aT (si h_6 ▸ rF)))
 clear h_4
 refine aS (aSR (rg 2 rfl (rn (bx h_5 fun o9 ho10 h_6 => awp_cut1 (fun x => x = o9) (fun (x5 : Bool) => ⟨[(1, .ptr 0 0), (57, .bool x5)], [(0, 0, .int .i64 kind1), (0, 1, .str (sB name1)), (0, 2, .str (sB op1)), (0, 3, .sl (vals1.map c_tAttr)), (0, 4, .sl (cs_tFilter l1))], [], 1⟩) ?_ ?_))))
 ·clear h_5
  refine cS2 rfl ho10 (fun ho10_1 => ?_) fun ho10_1 => ?_
  ·clear ho10
   exact aK (si ho10_1 ▸ cN [0])
  clear ho10
  refine aSR (rg 2 rfl (rn (cS2 rfl ho10_1 (fun ho10_2 => ?_) fun ho10_2 => ?_)))
  ·clear ho10_1
   exact aK (si ho10_2 ▸ cN [0])
  clear ho10_1
  exact aR (rg 2 rfl (rn (si ho10_2 ▸ cN [0])))
 clear h_5
 rintro x5 rfl
 refine ch (cS2 rfl h_6 (fun h_7 => ?_) fun h_7 => ?_)
 ·clear h_6
  exact aSR (rv rfl rfl (bx h_7 fun x6 hx11 h_8 => rc1 rfl rfl rfl (dfilter_leaf_l hx11) (rv rfl rfl (rn (aT (si h_8 ▸ rF))))))
 clear h_6
 exact aK (inBlock_normal (aSR (rv rfl rfl (rn (aT (si h_7 ▸ rF))))))
mutual
def dfilter_size : Nat → tFilter → Option (Int × Int)
  | 0, _ => none
  | fu + 1, f1 => match f1 with | .mk kind1 name1 op1 vals1 l1 => (loopD (ε := Int × Int × Int) (τ := Int × Int) (fun (((deep1, nodes1, x1)) : Int × Int × Int) => (bif (decide (x1 < (l1.length : Int))) then ((gi l1 x1).bind fun x3 => match x3 with | .mk kind2 name2 op2 vals2 l2 => (dfilter_size fu (tFilter.mk kind2 name2 op2 vals2 l2)).bind fun d1 => (some (if d1.1 > deep1 then d1.1 else deep1)).bind fun deep4 => (some (W (nodes1 + d1.2))).bind fun nodes4 => some (Sum.inl (deep4, nodes4, W (x1 + 1)))) else some (Sum.inr (deep1, nodes1)))) fu (0, 1, 0)).bind fun (((deep3, nodes3)) : Int × Int) => some (W (deep3 + 1), nodes3)
end
abbrev I_dfilter_size (fu : Nat) : Prop := ∀ {f1} {r : Int × Int}, dfilter_size fu f1 = some r → PCall Tryz.prog 126 [.agg (c_tFilter f1)] (· = .tup [.int .i64 r.1, .int .i64 r.2])
theorem dfilter_size_s {fu : Nat} (ih_dfilter_size : I_dfilter_size fu) : I_dfilter_size (fu + 1) := by
 intro f1 r h
 obtain ⟨kind1, name1, op1, vals1, l1⟩ := f1
 rw [dfilter_size] at h
 refine pB_ Tryz.func126 ?_
 refine aSR (rb rfl rfl (rg 2 rfl (rn (aSR (rg 2 rfl (rn (aS (aSR (rg 3 rfl (rt ((lM_tFilter l1)) (rv rfl rfl (rn (bx h fun e1 hl2 h_1 => awp_cut1 (fun x => x = e1) (fun (((deep3, nodes3)) : Int × Int) => ⟨[(4, .int .i64 deep3), (5, .int .i64 nodes3)], [], [], 0⟩) ?_ ?_)))))))))))))
 ·clear h
  refine aB (awp_loopD hl2 (fun (((deep1, nodes1, x1)) : Int × Int × Int) => ⟨[(4, .int .i64 deep1), (5, .int .i64 nodes1), (11, .sl (cs_tFilter l1)), (12, .int .i64 (l1.length : Int)), (13, .int .i64 x1)], [], [], 0⟩) [] rfl zs ?_)
  intro v o5 ho3 hE4
  obtain ⟨deep1, nodes1, x1⟩ := v
  refine ch (aSR (rv rfl rfl (rn (aS (cS2 rfl ho3 (fun ho3_1 => ?_) fun ho3_1 => ?_)))))
  ·clear ho3
   refine aK (aS (aB (aSR (bx ho3_1 fun x3 hx6 ho3_2 => ri rfl rfl rfl rfl rfl rfl (gi0 hx6) (giM_tFilter hx6) (wM_tFilter _) ?_))))
   obtain ⟨kind2, name2, op2, vals2, l2⟩ := x3
   refine rv rfl rfl (ra rfl rfl rfl (rs rfl rfl rfl rfl rfl rfl rfl (rn (aSR (rv rfl rfl (bx ho3_2 fun d1 hx7 ho3_3 => rc1 rfl rfl rfl (ih_dfilter_size hx7) (rg 5 rfl (rn (aR (rg 7 rfl ?_))))))))))
   obtain ⟨deep4, hx8, ho3_4⟩ := bs ho3_3
   refine rt (ei' hx8) (rv rfl rfl ?_)
   obtain ⟨nodes4, hx9, ho3_5⟩ := bs ho3_4
   exact rt (ei' hx9) (rn (inBlock_normal (aR (rg 2 rfl (rn (si ho3_5 ▸ lN []))))))
  clear ho3
  refine awp_exit (xX ?_)
  cases ho3_1
  have hq := hE4 _ rfl
  subst hq
  exact cN []
 clear h
 rintro ⟨deep3, nodes3⟩ rfl
 exact ch (aSR (rg 5 rfl (rn (aT (si h_1 ▸ rF)))))
end
theorem dfilter_size_l : ∀ {fu : Nat}, I_dfilter_size fu
  | 0 => fun h => by simp [dfilter_size] at h
  | fu + 1 => dfilter_size_s (fu := fu) (dfilter_size_l (fu := fu))
mutual
def dfilter_fine : Nat → tFilter → Option Bool
  | 0, _ => none
  | fu + 1, f1 => match f1 with | .mk kind1 name1 op1 vals1 l1 => (dfilter_own fu (tFilter.mk kind1 name1 op1 vals1 l1)).bind fun x1 => bif x1 then ((dslices_ContainsFunc_Filter fu l1 (fun x0 => dfilter_fine_1 fu x0)).bind fun x2 => some (!x2)) else some false
def dfilter_fine_1 : Nat → tFilter → Option Bool
  | 0, _ => none
  | fu + 1, x1 => match x1 with | .mk kind1 name1 op1 vals1 l1 => (dfilter_fine fu (tFilter.mk kind1 name1 op1 vals1 l1)).bind fun x2 => some (!x2)
end
abbrev I_dfilter_fine (fu : Nat) : Prop := ∀ {f1} {r : Bool}, dfilter_fine fu f1 = some r → PCall Tryz.prog 127 [.agg (c_tFilter f1)] (· = .bool r)
abbrev I_dfilter_fine_1 (fu : Nat) : Prop := ∀ {x1} {r : Bool}, dfilter_fine_1 fu x1 = some r → PCall Tryz.prog 183 [.agg (c_tFilter x1)] (· = .bool r)
section
attribute [local irreducible] awp aops DP PCall ACall Decidable.decide
theorem dfilter_fine_s {fu : Nat} (ih_dfilter_fine : I_dfilter_fine fu) (ih_dfilter_fine_1 : I_dfilter_fine_1 fu) : I_dfilter_fine (fu + 1) := by
 intro f1 r h
 obtain ⟨kind1, name1, op1, vals1, l1⟩ := f1
 rw [dfilter_fine] at h
 refine pB_ Tryz.func127 ?_
 refine aSR (rb rfl rfl (rv rfl rfl (rn (aSR (rv rfl rfl (bx h fun x1 hx1 h_1 => rc1 rfl rfl rfl (dfilter_own_l hx1) (rv rfl rfl (gT2 rfl rfl rfl rfl rfl h_1 (fun h_2 => ?_) fun h_2 => ?_))))))))
 ·clear h h_1
  exact rg 2 rfl (gy rfl rfl rfl (bx h_2 fun x2 hx2 h_3 => rc1 rfl rfl rfl (dslices_ContainsFunc_Filter_l ⟨rfl, fun _ => rfl⟩ (fun hq => ih_dfilter_fine_1 hq) hx2) (rg 3 rfl (rn (aT (si h_3 ▸ rF))))))
 clear h h_1
 exact rg 5 rfl (rn (aT (si h_2 ▸ rF)))
theorem dfilter_fine_1_s {fu : Nat} (ih_dfilter_fine : I_dfilter_fine fu) (ih_dfilter_fine_1 : I_dfilter_fine_1 fu) : I_dfilter_fine_1 (fu + 1) := by
 intro x1 r h
 obtain ⟨kind1, name1, op1, vals1, l1⟩ := x1
 rw [dfilter_fine_1] at h
 refine pB_ Tryz.func183 ?_
 exact aSR (rb rfl rfl (rv rfl rfl (rn (aSR (rv rfl rfl (bx h fun x2 hx1 h_1 => rc1 rfl rfl rfl (ih_dfilter_fine hx1) (rg 2 rfl (rn (aT (si h_1 ▸ rF))))))))))
end
theorem rec_dfilter_fine : ∀ fu : Nat, I_dfilter_fine fu ∧ I_dfilter_fine_1 fu
  | 0 => ⟨fun h => by simp [dfilter_fine] at h, fun h => by simp [dfilter_fine_1] at h⟩
  | fu + 1 => by
    obtain ⟨i0, i1⟩ := rec_dfilter_fine fu
    exact ⟨dfilter_fine_s i0 i1, dfilter_fine_1_s i0 i1⟩
theorem dfilter_fine_l {fu : Nat} : I_dfilter_fine fu := (rec_dfilter_fine fu).1
def dfilter_May (fu : Nat) (f1 : tFilter) : Option Bool :=
  match f1 with | .mk kind1 name1 op1 vals1 l1 => (dfilter_size fu (tFilter.mk kind1 name1 op1 vals1 l1)).bind fun deep1 => bif (decide (deep1.1 ≤ 10)) then (bif (decide (deep1.2 ≤ 60)) then ((dfilter_fine fu (tFilter.mk kind1 name1 op1 vals1 l1)).bind fun x1 => some x1) else some false) else some false
section
attribute [local irreducible] awp aops DP PCall ACall Decidable.decide
theorem dfilter_May_l {fu : Nat} {f1 : tFilter} {r : Bool} (h : dfilter_May fu f1 = some r) : PCall Tryz.prog 79 [.agg (c_tFilter f1)] (· = .bool r) := by
 obtain ⟨kind1, name1, op1, vals1, l1⟩ := f1
 rw [dfilter_May] at h
 refine pB_ Tryz.func79 ?_
 refine aSR (rb rfl rfl (rv rfl rfl (rn (aSR (rv rfl rfl (bx h fun deep1 hx1 h_1 => rc1 rfl rfl rfl (dfilter_size_l hx1) (rg 5 rfl (rn (aSR (rg 3 rfl (gT2 rfl rfl rfl rfl rfl h_1 (fun h_2 => ?_) fun h_2 => ?_)))))))))))
 ·clear h h_1
  refine rg 4 rfl (gT2 rfl rfl rfl rfl rfl h_2 (fun h_3 => ?_) fun h_3 => ?_)
  ·clear h_2
   exact rv rfl rfl (gy rfl rfl rfl (bx h_3 fun x1 hx2 h_4 => rc1 rfl rfl rfl (dfilter_fine_l hx2) (rg 2 rfl (rn (aT (si h_4 ▸ rF))))))
  clear h_2
  exact rg 3 rfl (rn (aT (si h_3 ▸ rF)))
 clear h h_1
 exact rg 7 rfl (rn (aT (si h_2 ▸ rF)))
def dfilter_parser_next (fu : Nat) (p1 : tfilterparser) : Option (ttokenToken × tfilterparser) :=
  (bif p1.Bad then some true else some ((p1.L.length : Int) == 0) : Option Bool).bind fun (x1 : Bool) => (bif x1 then some ((ttokenToken.mk 0 0 0 []), p1) else ((gi p1.L 0).bind fun x2 => some (x2, p1)))
theorem dfilter_parser_next_l {fu : Nat} {p1 : tfilterparser} {r : ttokenToken × tfilterparser} (h : dfilter_parser_next fu p1 = some r) : ACall Tryz.prog 224 1 [.ptr 0 0] [(0, 0, .sl (p1.L.map c_ttokenToken)), (0, 1, .bool p1.Bad)] [] (fun r_ H_ O_ n_ => r_ = .agg [.int .i64 r.1.Kind, .int .i64 r.1.At, .int .i64 r.1.N, .str (sB r.1.S)] ∧ H_ = [(0, 0, .sl (r.2.L.map c_ttokenToken)), (0, 1, .bool r.2.Bad)] ∧ O_ = [] ∧ n_ = 1) := by
 rw [dfilter_parser_next] at h
 refine aB_ Tryz.func224 ?_
 refine aSR (ra rfl rfl rfl (rn (aS (aS (bx h fun o1 ho2 h_1 => awp_cut1 (fun x => x = o1) (fun (x1 : Bool) => ⟨[(0, .ptr 0 0), (2, .ptr 1 0), (14, .bool x1)], [(0, 0, .sl (p1.L.map c_ttokenToken)), (0, 1, .bool p1.Bad), (1, 0, .int .i64 0), (1, 1, .int .i64 0), (1, 2, .int .i64 0), (1, 3, .str (sB []))], [], 2⟩) ?_ ?_)))))
 ·clear h
  refine aR (rg 5 rfl (gF2 rfl rfl rfl rfl rfl ho2 (fun ho2_1 => ?_) fun ho2_1 => ?_))
  ·clear ho2
   exact rg 5 rfl (rt ((lM c_ttokenToken p1.L)) (rg 2 rfl (rn (si ho2_1 ▸ cN [0,1]))))
  clear ho2
  exact rg 6 rfl (rn (si ho2_1 ▸ cN [0,1]))
 clear h
 rintro x1 rfl
 refine ch (cS2 rfl h_1 (fun h_2 => ?_) fun h_2 => ?_)
 ·clear h_1
  refine aSR (rv rfl rfl (rs rfl rfl rfl rfl rfl rfl rfl (rn (aT ?_))))
  obtain rfl := si h_2
  refine rW ?_
  exact rA [0]
 clear h_1
 refine aK (aSR (rg 4 rfl (bx h_2 fun x2 hx3 h_3 => ri rfl rfl rfl rfl rfl rfl (gi0 hx3) (giM c_ttokenToken hx3) (wM (fun _ => by rfl) _) ?_)))
 refine rv rfl rfl (rs rfl rfl rfl rfl rfl rfl rfl (rn (aT ?_)))
 obtain rfl := si h_3
 refine rW ?_
 exact rA [0]
def dfilter_parser_takes (fu : Nat) (p1 : tfilterparser) (s1 : Str) : Option (Bool × tfilterparser) :=
  (dfilter_parser_next fu p1).bind fun x1 => (bif (!(x1.1.S == s1)) then some true else (bif (x1.1.Kind != 2) then some (x1.1.Kind != 5) else some false) : Option Bool).bind fun (x2 : Bool) => (bif x2 then some (false, x1.2) else ((gsl x1.2.L 1 (x1.2.L.length : Int)).bind fun l1 => some (true, (tfilterparser.mk l1 x1.2.Bad))))
theorem dfilter_parser_takes_l {fu : Nat} {p1 : tfilterparser} {s1 : Str} {r : Bool × tfilterparser} (h : dfilter_parser_takes fu p1 s1 = some r) : ACall Tryz.prog 180 1 [.ptr 0 0, .str (sB s1)] [(0, 0, .sl (p1.L.map c_ttokenToken)), (0, 1, .bool p1.Bad)] [] (fun r_ H_ O_ n_ => r_ = .bool r.1 ∧ H_ = [(0, 0, .sl (r.2.L.map c_ttokenToken)), (0, 1, .bool r.2.Bad)] ∧ O_ = [] ∧ n_ = 1) := by
 rw [dfilter_parser_takes] at h
 refine aB_ Tryz.func180 ?_
 refine aSR (rv rfl rfl (rn (aSR (rv rfl rfl (bx h fun x1 hx1 h_1 => rh [0] rfl rfl (dfilter_parser_next_l hx1) rfl rfl rfl zH zO (eA rfl rfl rfl rfl ?_))))))
 refine ra rfl rfl rfl (rs rfl rfl rfl rfl rfl rfl rfl (rn (aS (aS (bx h_1 fun o2 ho3 h_2 => awp_cut1 (fun x => x = o2) (fun (x2 : Bool) => ⟨[(0, .ptr 0 0), (21, .bool x2)], [(0, 0, .sl (x1.2.L.map c_ttokenToken)), (0, 1, .bool x1.2.Bad)], [], 1⟩) ?_ ?_)))))
 ·clear h h_1
  refine aR (rg 4 rfl (rt (sNe x1.1.S s1) (rv rfl rfl (gF2 rfl rfl rfl rfl rfl ho3 (fun ho3_1 => ?_) fun ho3_1 => ?_))))
  ·clear ho3
   refine rg 4 rfl (gT2 rfl rfl rfl rfl rfl ho3_1 (fun ho3_2 => ?_) fun ho3_2 => ?_)
   ·clear ho3_1
    exact rg 5 rfl (rn (si ho3_2 ▸ cN [0]))
   clear ho3_1
   exact rg 4 rfl (rn (si ho3_2 ▸ cN [0]))
  clear ho3
  exact rg 3 rfl (gu rfl rfl rfl rfl (gu rfl rfl rfl rfl (gu rfl rfl rfl rfl (rg 2 rfl (rn (si ho3_1 ▸ cN [0]))))))
 clear h h_1
 rintro x2 rfl
 refine ch (cS2 rfl h_2 (fun h_3 => ?_) fun h_3 => ?_)
 ·clear h_2
  refine aSR (rv rfl rfl (rn (aT ?_)))
  obtain rfl := si h_3
  refine rW ?_
  exact rA [0]
 clear h_2
 refine aK (aSR (rg 5 rfl (bx h_3 fun l1 hx4 h_4 => rV rfl (va_slsub (c := c_ttokenToken) rfl rfl rfl rfl ⟨_, rfl⟩ rfl hx4 (fun _ => rfl)) (rg 2 rfl (rs rfl rfl rfl rfl rfl rfl rfl (rn (aSR (rv rfl rfl (rn (aT ?_))))))))))
 obtain rfl := si h_4
 refine rW ?_
 exact rA [0]
def dfilter_parser_must (fu : Nat) (p1 : tfilterparser) (is1 : Bool) : Option tfilterparser :=
  bif p1.Bad then some (tfilterparser.mk p1.L true) else some (tfilterparser.mk p1.L (!is1))
theorem dfilter_parser_must_l {fu : Nat} {p1 : tfilterparser} {is1 : Bool} {r : tfilterparser} (h : dfilter_parser_must fu p1 is1 = some r) : ACall Tryz.prog 225 1 [.ptr 0 0, .bool is1] [(0, 0, .sl (p1.L.map c_ttokenToken)), (0, 1, .bool p1.Bad)] [] (fun r_ H_ O_ n_ => r_ = .tup [] ∧ H_ = [(0, 0, .sl (r.L.map c_ttokenToken)), (0, 1, .bool r.Bad)] ∧ O_ = [] ∧ n_ = 1) := by
 rw [dfilter_parser_must] at h
 refine aB_ Tryz.func225 ?_
 refine aR (rg 6 rfl (gF2 rfl rfl rfl rfl rfl h (fun h_1 => ?_) fun h_1 => ?_))
 ·clear h
  refine rg 5 rfl (rs rfl rfl rfl rfl rfl rfl rfl (rn ?_))
  obtain rfl := si h_1
  exact rA' [0]
 clear h
 refine rg 4 rfl (rs rfl rfl rfl rfl rfl rfl rfl (rn ?_))
 obtain rfl := si h_1
 exact rA' [0]
def dfilter_parser_take (fu : Nat) (p1 : tfilterparser) (kinds1 : List Int) : Option (ttokenToken × tfilterparser) :=
  (dfilter_parser_next fu p1).bind fun x1 => (dslices_Contains_int fu kinds1 x1.1.Kind).bind fun x2 => bif (!x2) then some ((ttokenToken.mk 0 0 0 []), (tfilterparser.mk x1.2.L true)) else ((gsl x1.2.L 1 (x1.2.L.length : Int)).bind fun l1 => some (x1.1, (tfilterparser.mk l1 x1.2.Bad)))
theorem dfilter_parser_take_l {fu : Nat} {p1 : tfilterparser} {kinds1 : List Int} {r : ttokenToken × tfilterparser} (h : dfilter_parser_take fu p1 kinds1 = some r) : ACall Tryz.prog 250 1 [.ptr 0 0, .sl (kinds1.map (cI .i64))] [(0, 0, .sl (p1.L.map c_ttokenToken)), (0, 1, .bool p1.Bad)] [] (fun r_ H_ O_ n_ => r_ = .agg [.int .i64 r.1.Kind, .int .i64 r.1.At, .int .i64 r.1.N, .str (sB r.1.S)] ∧ H_ = [(0, 0, .sl (r.2.L.map c_ttokenToken)), (0, 1, .bool r.2.Bad)] ∧ O_ = [] ∧ n_ = 1) := by
 rw [dfilter_parser_take] at h
 refine aB_ Tryz.func250 ?_
 refine aSR (ra rfl rfl rfl (rn (aSR (rv rfl rfl (bx h fun x1 hx1 h_1 => rh [0] rfl rfl (dfilter_parser_next_l hx1) rfl rfl rfl zH zO (eA rfl rfl rfl rfl ?_))))))
 refine ra rfl rfl rfl (rs rfl rfl rfl rfl rfl rfl rfl (rn (aS (aSR (rg 3 rfl (bx h_1 fun x2 hx2 h_2 => rc1 rfl rfl rfl (dslices_Contains_int_l hx2) (rv rfl rfl (rn (cS2 rfl h_2 (fun h_3 => ?_) fun h_3 => ?_)))))))))
 ·clear h h_1 h_2
  refine aSR (rg 3 rfl (rs rfl rfl rfl rfl rfl rfl rfl (rn (aSR (rv rfl rfl (rs rfl rfl rfl rfl rfl rfl rfl (rn (aT ?_))))))))
  obtain rfl := si h_3
  refine rW ?_
  exact rA [0]
 clear h h_1 h_2
 refine aK (aSR (rg 5 rfl (bx h_3 fun l1 hx3 h_4 => rV rfl (va_slsub (c := c_ttokenToken) rfl rfl rfl rfl ⟨_, rfl⟩ rfl hx3 (fun _ => rfl)) (rg 2 rfl (rs rfl rfl rfl rfl rfl rfl rfl (rn (aSR (rv rfl rfl (rs rfl rfl rfl rfl rfl rfl rfl (rn (aT ?_)))))))))))
 obtain rfl := si h_4
 refine rW ?_
 exact rA [0]
def dfilter_parser_value (fu : Nat) (p1 : tfilterparser) (kinds1 : List Int) : Option (tAttr × tfilterparser) :=
  (dfilter_parser_take fu p1 kinds1).bind fun x1 => bif (x1.1.Kind == 4) then some ((tAttr.mk [] true 0 x1.1.S), x1.2) else some ((tAttr.mk [] false x1.1.N []), x1.2)
theorem dfilter_parser_value_l {fu : Nat} {p1 : tfilterparser} {kinds1 : List Int} {r : tAttr × tfilterparser} (h : dfilter_parser_value fu p1 kinds1 = some r) : ACall Tryz.prog 251 1 [.ptr 0 0, .sl (kinds1.map (cI .i64))] [(0, 0, .sl (p1.L.map c_ttokenToken)), (0, 1, .bool p1.Bad)] [] (fun r_ H_ O_ n_ => r_ = .agg [.str (sB r.1.Name), .bool r.1.Text, .int .i64 r.1.N, .str (sB r.1.S)] ∧ H_ = [(0, 0, .sl (r.2.L.map c_ttokenToken)), (0, 1, .bool r.2.Bad)] ∧ O_ = [] ∧ n_ = 1) := by
 rw [dfilter_parser_value] at h
 refine aB_ Tryz.func251 ?_
 refine aSR (ra rfl rfl rfl (rn (aSR (rg 2 rfl (bx h fun x1 hx1 h_1 => rh [0] rfl rfl (dfilter_parser_take_l hx1) rfl rfl rfl zH zO (eA rfl rfl rfl rfl ?_))))))
 refine ra rfl rfl rfl (rs rfl rfl rfl rfl rfl rfl rfl (rn (aS (aSR (rg 3 rfl (rn (cS2 rfl h_1 (fun h_2 => ?_) fun h_2 => ?_)))))))
 ·clear h h_1
  refine aSR (rg 3 rfl (rs rfl rfl rfl rfl rfl rfl rfl (rn (aT ?_))))
  obtain rfl := si h_2
  refine rW ?_
  exact rA [0]
 clear h h_1
 refine aK (aSR (rg 3 rfl (rs rfl rfl rfl rfl rfl rfl rfl (rn (aT ?_)))))
 obtain rfl := si h_2
 refine rW ?_
 exact rA [0]
def dfilter_parser_leaf (fu : Nat) (p1 : tfilterparser) : Option (tFilter × tfilterparser) :=
  (dfilter_parser_take fu p1 [1]).bind fun x1 => (dfilter_parser_takes fu x1.2 [105, 110]).bind fun x2 => bif x2.1 then ((dfilter_parser_takes fu x2.2 [40]).bind fun x3 => (dfilter_parser_must fu x3.2 x3.1).bind fun x4 => (loopD (ε := Bool × (List ttokenToken) × Bool × (List tAttr)) (τ := (List ttokenToken) × Bool × (List tAttr)) (fun (((more1, p2, p3, l1)) : Bool × (List ttokenToken) × Bool × (List tAttr)) => (bif more1 then ((dfilter_parser_value fu (tfilterparser.mk p2 p3) [3, 4]).bind fun x5 => (ap l1 [x5.1]).bind fun l4 => (gi l4 0).bind fun x7 => (dfilter_parser_must fu x5.2 (x5.1.Text == x7.Text)).bind fun x8 => (dfilter_parser_takes fu x8 [44]).bind fun more3 => some (Sum.inl (more3.1, more3.2.L, more3.2.Bad, l4))) else some (Sum.inr (p2, p3, l1)))) fu (true, x4.L, x4.Bad, [])).bind fun (((p6, p7, l3)) : (List ttokenToken) × Bool × (List tAttr)) => ((dfilter_parser_takes fu (tfilterparser.mk p6 p7) [41]).bind fun x9 => (dfilter_parser_must fu x9.2 x9.1).bind fun x10 => some ((tFilter.mk 6 x1.1.S [] l3 []), x10))) else ((dfilter_parser_takes fu x2.2 [94, 61]).bind fun x11 => bif x11.1 then ((dfilter_parser_value fu x11.2 [4]).bind fun x12 => some ((tFilter.mk 5 x1.1.S [] [x12.1] []), x12.2)) else ((dfilter_parser_take fu x11.2 [5]).bind fun x13 => (dfilter_ops fu ).bind fun x16 => (dslices_Contains_string fu x16 x13.1.S).bind fun x17 => (dfilter_parser_must fu x13.2 x17).bind fun x18 => (dfilter_parser_value fu x18 [3, 4]).bind fun x19 => some ((tFilter.mk 4 x1.1.S x13.1.S [x19.1] []), x19.2)))
theorem dfilter_parser_leaf_l {fu : Nat} {p1 : tfilterparser} {r : tFilter × tfilterparser} (h : dfilter_parser_leaf fu p1 = some r) : ACall Tryz.prog 226 1 [.ptr 0 0] [(0, 0, .sl (p1.L.map c_ttokenToken)), (0, 1, .bool p1.Bad)] [] (fun r_ H_ O_ n_ => r_ = .agg (c_tFilter r.1) ∧ H_ = [(0, 0, .sl (r.2.L.map c_ttokenToken)), (0, 1, .bool r.2.Bad)] ∧ O_ = [] ∧ n_ = 1) := by
 rw [dfilter_parser_leaf] at h
 refine aB_ Tryz.func226 ?_
 refine aSR (ra rfl rfl rfl (rn (aSR (rv rfl rfl (rbs false rfl rfl rfl rfl rfl rfl rfl rfl rfl rfl (bx h fun x1 hx1 h_1 => rh [0] rfl rfl (dfilter_parser_take_l hx1) rfl rfl rfl zH zO (eA rfl rfl rfl rfl ?_)))))))
 refine rg 2 rfl (ra rfl rfl rfl (rs rfl rfl rfl rfl rfl rfl rfl (rn (aS (aB (aSR (rv rfl rfl (bx h_1 fun x2 hx2 h_2 => rh [0] rfl rfl (dfilter_parser_takes_l hx2) rfl rfl rfl zH zO (eA rfl rfl rfl rfl ?_)))))))))
 refine rv rfl rfl (rn (cS2 rfl h_2 (fun h_3 => ?_) fun h_3 => ?_))
 ·clear h h_1 h_2
  refine aSR (rv rfl rfl (rs rfl rfl rfl rfl rfl rfl rfl (rn (aSR (rg 2 rfl (bx h_3 fun x3 hx3 h_4 => rh [0] rfl rfl (dfilter_parser_takes_l hx3) rfl rfl rfl zH zO (eA rfl rfl rfl rfl ?_)))))))
  refine bx h_4 fun x4 hx4 h_5 => rh [0] rfl rfl (dfilter_parser_must_l hx4) rfl rfl rfl zH zO (eA rfl rfl rfl rfl ?_)
  refine rn (aS (aSR (rv rfl rfl (rn (awp_conv (fun _ _ _ _ _ hi => nilS_cell false 4 3 3 rfl hi) (bx h_5 fun e5 hl6 h_6 => awp_cut1 (fun x => x = e5) (fun (((p6, p7, l3)) : (List ttokenToken) × Bool × (List tAttr)) => ⟨[(0, .ptr 0 0), (2, .ptr 1 0), (3, .ptr 2 0)], [(0, 0, .sl (p6.map c_ttokenToken)), (0, 1, .bool p7), (1, 0, .int .i64 0), (1, 1, .str (sB [])), (1, 2, .str (sB [])), (1, 3, .nilS), (1, 4, .nilS), (2, 0, .int .i64 6), (2, 1, .str (sB x1.1.S)), (2, 2, .str (sB [])), (2, 3, .own 3), (2, 4, .nilS)], [(3, .row 4 (l3.map c_tAttr))], 4⟩) ?_ ?_))))))
  ·clear h_3 h_4 h_5
   refine aB (awp_loopD hl6 (fun (((more1, p2, p3, l1)) : Bool × (List ttokenToken) × Bool × (List tAttr)) => ⟨[(0, .ptr 0 0), (2, .ptr 1 0), (3, .ptr 2 0), (4, .bool more1)], [(0, 0, .sl (p2.map c_ttokenToken)), (0, 1, .bool p3), (1, 0, .int .i64 0), (1, 1, .str (sB [])), (1, 2, .str (sB [])), (1, 3, .nilS), (1, 4, .nilS), (2, 0, .int .i64 6), (2, 1, .str (sB x1.1.S)), (2, 2, .str (sB [])), (2, 3, .own 3), (2, 4, .nilS)], [(3, .row 4 (l1.map c_tAttr))], 4⟩) [0,1,3,4] rfl zs ?_)
   intro v o9 ho7 hE8
   obtain ⟨more1, p2, p3, l1⟩ := v
   refine ch (aS (aSR (rv rfl rfl (rn (cS2 rfl ho7 (fun ho7_1 => ?_) fun ho7_1 => ?_)))))
   ·clear ho7
    refine aK (aS (aB (aSR (rv rfl rfl (rbs false rfl rfl rfl rfl rfl rfl rfl rfl rfl rfl (bx ho7_1 fun x5 hx10 ho7_2 => rh [0] rfl rfl (dfilter_parser_value_l hx10) rfl rfl rfl zH zO (eA rfl rfl rfl rfl ?_)))))))
    refine ra rfl rfl rfl (rs rfl rfl rfl rfl rfl rfl rfl (rn (aSR (rg 3 rfl (rbs false rfl rfl rfl rfl rfl rfl rfl rfl rfl rfl (bx ho7_2 fun l4 hx11 ho7_3 => rap false (z := 4) (xs := l1.map c_tAttr) (ys := [x5.1].map c_tAttr) rfl rfl rfl rfl rfl rfl rfl (.own rfl rfl) (.sl rfl rfl rfl) (wM (fun _ => by rfl) _) (oM (fun _ => by rfl) _) (apB c_tAttr rfl hx11) rfl ?_))))))
    refine rk (congrArg (Kind.row _) (apM c_tAttr hx11)) (rv rfl rfl (rs rfl rfl rfl rfl rfl rfl rfl (rn (awp_ren (L := [0,1,2,5,7]) (s' := ⟨[(0, .ptr 0 0), (2, .ptr 1 0), (3, .ptr 2 0), (5, .ptr 3 0)], [(0, 0, .sl (x5.2.L.map c_ttokenToken)), (0, 1, .bool x5.2.Bad), (1, 0, .int .i64 0), (1, 1, .str (sB [])), (1, 2, .str (sB [])), (1, 3, .nilS), (1, 4, .nilS), (2, 0, .int .i64 6), (2, 1, .str (sB x1.1.S)), (2, 2, .str (sB [])), (2, 3, .own 4), (2, 4, .nilS), (3, 0, .str (sB x5.1.Name)), (3, 1, .bool x5.1.Text), (3, 2, .int .i64 x5.1.N), (3, 3, .str (sB x5.1.S))], [(4, .row 4 (l4.map c_tAttr))], 5⟩) zs rfl (dX_ 10 [] Tryz.mix (xv [] rfl rfl (fun _ => rfl) (xv [] rfl rfl (fun _ => rfl) (xv [3] rfl rfl (fun _ => rfl) (xv [] rfl rfl (fun _ => rfl) (xv [2] rfl rfl (fun _ => rfl) (bx ho7_3 fun x7 hx13 ho7_4 => xV [4] rfl rfl (fun _ => va_idx rfl rfl rfl rfl rfl (gi0 hx13) (giM c_tAttr hx13) (wM (fun _ => by rfl) _)) ?_)))))))))))
    refine xv [] rfl rfl (fun _ => rfl) (xv [] rfl rfl (fun _ => rfl) (xv [] rfl rfl (fun _ => rfl) (bx ho7_4 fun x8 hx14 ho7_5 => ?_)))
    refine xE [0] (.tup []) 5 _ _ rfl rfl (by
        refine rh [0] rfl rfl (dfilter_parser_must_l hx14) rfl rfl rfl (zC rfl rfl rfl rfl (zC rfl rfl rfl rfl (trivial))) (trivial) ?_
        refine ek ?_
        refine as1 rfl ?_
        refine ae rfl rfl rfl ?_
        exact rn ⟨rfl, rfl⟩) (by rfl) (by rfl) (by rfl) ?_
    refine xn (by kernel_rfl) (rn (inBlock_normal (aR (rv rfl rfl (bx ho7_5 fun more3 hx15 ho7_6 => rh [0] rfl rfl (dfilter_parser_takes_l hx15) rfl rfl rfl zH zO (eA rfl rfl rfl rfl ?_))))))
    exact rv rfl rfl (rn (si ho7_6 ▸ lN [0,1,2,4]))
   clear ho7
   refine awp_exit (xX ?_)
   cases ho7_1
   have hq := hE8 _ rfl
   subst hq
   exact cN [0,1,2,3]
  clear h_3 h_4 h_5
  rintro ⟨p6, p7, l3⟩ rfl
  refine ch (aSR (rg 2 rfl (bx h_6 fun x9 hx16 h_7 => rh [0] rfl rfl (dfilter_parser_takes_l hx16) rfl rfl rfl zH zO (eA rfl rfl rfl rfl ?_))))
  refine bx h_7 fun x10 hx17 h_8 => rh [0] rfl rfl (dfilter_parser_must_l hx17) rfl rfl rfl zH zO (eA rfl rfl rfl rfl ?_)
  refine rn (aSR (rv rfl rfl (rs rfl rfl rfl rfl rfl rfl rfl (rn (aT ?_)))))
  obtain rfl := si h_8
  refine rW ?_
  exact rA [0]
 clear h h_1 h_2
 refine aSR (rv rfl rfl (bx h_3 fun x11 hx18 h_4 => rh [0] rfl rfl (dfilter_parser_takes_l hx18) rfl rfl rfl zH zO (eA rfl rfl rfl rfl ?_)))
 refine rv rfl rfl (rn (cS2 rfl h_4 (fun h_5 => ?_) fun h_5 => ?_))
 ·clear h_3 h_4
  refine aSR (rv rfl rfl (rs rfl rfl rfl rfl rfl rfl rfl (rn (aSR (rv rfl rfl (rbs false rfl rfl rfl rfl rfl rfl rfl rfl rfl rfl (bx h_5 fun x12 hx19 h_6 => rh [0] rfl rfl (dfilter_parser_value_l hx19) rfl rfl rfl zH zO (eA rfl rfl rfl rfl ?_))))))))
  refine rbs false rfl rfl rfl rfl rfl rfl rfl rfl rfl rfl (rv rfl rfl (rs rfl rfl rfl rfl rfl rfl rfl (rn (aSR (rv rfl rfl (rs rfl rfl rfl rfl rfl rfl rfl (rn (aT ?_))))))))
  obtain rfl := si h_6
  refine rW ?_
  exact rA [0]
 clear h_3 h_4
 refine aK (inBlock_normal (aSR (rv rfl rfl (rs rfl rfl rfl rfl rfl rfl rfl (rn (aSR (rv rfl rfl (rbs false rfl rfl rfl rfl rfl rfl rfl rfl rfl rfl (bx h_5 fun x13 hx20 h_6 => rh [0] rfl rfl (dfilter_parser_take_l hx20) rfl rfl rfl zH zO (eA rfl rfl rfl rfl ?_))))))))))
 refine rg 2 rfl (rs rfl rfl rfl rfl rfl rfl rfl (rn (aS (dX_ 6 [] Tryz.mix (xv [] rfl rfl (fun _ => rfl) (bx h_6 fun x16 hx23 h_7 => xc [] rfl rfl rfl (fun _ => rfl) (fun _ => (dfilter_ops_l hx23)) (xv [] rfl rfl (fun _ => rfl) (xv [3] rfl rfl (fun _ => rfl) (bx h_7 fun x17 hx24 h_8 => xc [] rfl rfl rfl (fun _ => rfl) (fun _ => (dslices_Contains_string_l hx24)) (bx h_8 fun x18 hx25 h_9 => ?_))))))))))
 refine xE [0] (.tup []) 5 _ _ rfl rfl (by
     refine rh [0] rfl rfl (dfilter_parser_must_l hx25) rfl rfl rfl (zC rfl rfl rfl rfl (zC rfl rfl rfl rfl (trivial))) (trivial) ?_
     refine ek ?_
     refine as1 rfl ?_
     refine ae rfl rfl rfl ?_
     exact rn ⟨rfl, rfl⟩) (by rfl) (by rfl) (by rfl) ?_
 refine xn (by kernel_rfl) (rn (aSR (rv rfl rfl (rbs false rfl rfl rfl rfl rfl rfl rfl rfl rfl rfl (bx h_9 fun x19 hx26 h_10 => rh [0] rfl rfl (dfilter_parser_value_l hx26) rfl rfl rfl zH zO (eA rfl rfl rfl rfl ?_))))))
 refine rbs false rfl rfl rfl rfl rfl rfl rfl rfl rfl rfl (rv rfl rfl (rs rfl rfl rfl rfl rfl rfl rfl (rn (aSR (rv rfl rfl (rs rfl rfl rfl rfl rfl rfl rfl (rn (aT ?_))))))))
 obtain rfl := si h_10
 refine rW ?_
 exact rA [0]
mutual
def dfilter_parser_or : Nat → tfilterparser → Option (tFilter × tfilterparser)
  | 0, _ => none
  | fu + 1, p1 => (dfilter_parser_row_and fu p1 2 [111, 114]).bind fun x1 => match x1 with | (.mk kind1 name1 op1 vals1 l1, x2) => some ((tFilter.mk kind1 name1 op1 vals1 l1), x2)
def dfilter_parser_row_and : Nat → tfilterparser → Int → Str → Option (tFilter × tfilterparser)
  | 0, _, _, _ => none
  | fu + 1, p1, kind1, word1 => (dfilter_parser_and fu p1).bind fun x1 => match x1 with | (.mk kind2 name1 op1 vals1 l1, x2) => (loopD (ε := (List ttokenToken) × Bool × (List tFilter)) (τ := (List ttokenToken) × Bool × (List tFilter)) (fun (((p2, p3, l2)) : (List ttokenToken) × Bool × (List tFilter)) => ((dfilter_parser_takes fu (tfilterparser.mk p2 p3) word1).bind fun x5 => bif x5.1 then ((dfilter_parser_and fu x5.2).bind fun l5 => match l5 with | (.mk kind3 name2 op2 vals2 l6, l7) => (ap l2 [(tFilter.mk kind3 name2 op2 vals2 l6)]).bind fun l8 => some (Sum.inl (l7.L, l7.Bad, l8))) else some (Sum.inr (x5.2.L, x5.2.Bad, l2)))) fu (x2.L, x2.Bad, [(tFilter.mk kind2 name1 op1 vals1 l1)])).bind fun (((x3, x4, l4)) : (List ttokenToken) × Bool × (List tFilter)) => (bif ((l4.length : Int) == 1) then some ((tFilter.mk kind2 name1 op1 vals1 l1), (tfilterparser.mk x3 x4)) else ((loopD (ε := Int × (List tFilter)) (τ := List tFilter) (fun (((x6, l9)) : Int × (List tFilter)) => (bif (decide (x6 < (l4.length : Int))) then (((gi l4 x6).bind fun x8 => match x8 with | .mk kind4 name3 op3 vals3 l13 => bif (kind4 == kind1) then ((ap l9 l13).bind fun l14 => some l14) else ((ap l9 [(tFilter.mk kind4 name3 op3 vals3 l13)]).bind fun l15 => some l15) : Option (List tFilter)).bind fun (l12 : List tFilter) => some (Sum.inl (W (x6 + 1), l12))) else some (Sum.inr l9))) fu (0, [])).bind fun (l11 : List tFilter) => some ((tFilter.mk kind1 [] [] [] l11), (tfilterparser.mk x3 x4))))
def dfilter_parser_and : Nat → tfilterparser → Option (tFilter × tfilterparser)
  | 0, _ => none
  | fu + 1, p1 => (dfilter_parser_row_not fu p1 1 [97, 110, 100]).bind fun x1 => match x1 with | (.mk kind1 name1 op1 vals1 l1, x2) => some ((tFilter.mk kind1 name1 op1 vals1 l1), x2)
def dfilter_parser_row_not : Nat → tfilterparser → Int → Str → Option (tFilter × tfilterparser)
  | 0, _, _, _ => none
  | fu + 1, p1, kind1, word1 => (dfilter_parser_not fu p1).bind fun x1 => match x1 with | (.mk kind2 name1 op1 vals1 l1, x2) => (loopD (ε := (List ttokenToken) × Bool × (List tFilter)) (τ := (List ttokenToken) × Bool × (List tFilter)) (fun (((p2, p3, l2)) : (List ttokenToken) × Bool × (List tFilter)) => ((dfilter_parser_takes fu (tfilterparser.mk p2 p3) word1).bind fun x5 => bif x5.1 then ((dfilter_parser_not fu x5.2).bind fun l5 => match l5 with | (.mk kind3 name2 op2 vals2 l6, l7) => (ap l2 [(tFilter.mk kind3 name2 op2 vals2 l6)]).bind fun l8 => some (Sum.inl (l7.L, l7.Bad, l8))) else some (Sum.inr (x5.2.L, x5.2.Bad, l2)))) fu (x2.L, x2.Bad, [(tFilter.mk kind2 name1 op1 vals1 l1)])).bind fun (((x3, x4, l4)) : (List ttokenToken) × Bool × (List tFilter)) => (bif ((l4.length : Int) == 1) then some ((tFilter.mk kind2 name1 op1 vals1 l1), (tfilterparser.mk x3 x4)) else ((loopD (ε := Int × (List tFilter)) (τ := List tFilter) (fun (((x6, l9)) : Int × (List tFilter)) => (bif (decide (x6 < (l4.length : Int))) then (((gi l4 x6).bind fun x8 => match x8 with | .mk kind4 name3 op3 vals3 l13 => bif (kind4 == kind1) then ((ap l9 l13).bind fun l14 => some l14) else ((ap l9 [(tFilter.mk kind4 name3 op3 vals3 l13)]).bind fun l15 => some l15) : Option (List tFilter)).bind fun (l12 : List tFilter) => some (Sum.inl (W (x6 + 1), l12))) else some (Sum.inr l9))) fu (0, [])).bind fun (l11 : List tFilter) => some ((tFilter.mk kind1 [] [] [] l11), (tfilterparser.mk x3 x4))))
def dfilter_parser_not : Nat → tfilterparser → Option (tFilter × tfilterparser)
  | 0, _ => none
  | fu + 1, p1 => (dfilter_parser_takes fu p1 [110, 111, 116]).bind fun x1 => bif x1.1 then ((dfilter_parser_not fu x1.2).bind fun x2 => match x2 with | (.mk kind1 name1 op1 vals1 l1, x3) => some ((tFilter.mk 3 [] [] [] [(tFilter.mk kind1 name1 op1 vals1 l1)]), x3)) else ((dfilter_parser_takes fu x1.2 [40]).bind fun x4 => bif x4.1 then ((dfilter_parser_or fu x4.2).bind fun x5 => match x5 with | (.mk kind2 name2 op2 vals2 l2, x6) => (dfilter_parser_takes fu x6 [41]).bind fun x7 => (dfilter_parser_must fu x7.2 x7.1).bind fun x8 => some ((tFilter.mk kind2 name2 op2 vals2 l2), x8)) else ((dfilter_parser_takes fu x4.2 [116, 114, 117, 101]).bind fun x9 => bif x9.1 then some ((tFilter.mk 7 [] [] [] []), x9.2) else ((dfilter_parser_leaf fu x9.2).bind fun x10 => match x10 with | (.mk kind3 name3 op3 vals3 l3, x11) => some ((tFilter.mk kind3 name3 op3 vals3 l3), x11))))
end
abbrev I_dfilter_parser_or (fu : Nat) : Prop := ∀ {p1} {r : tFilter × tfilterparser}, dfilter_parser_or fu p1 = some r → ACall Tryz.prog 78 1 [.ptr 0 0] [(0, 0, .sl (p1.L.map c_ttokenToken)), (0, 1, .bool p1.Bad)] [] (fun r_ H_ O_ n_ => r_ = .agg (c_tFilter r.1) ∧ H_ = [(0, 0, .sl (r.2.L.map c_ttokenToken)), (0, 1, .bool r.2.Bad)] ∧ O_ = [] ∧ n_ = 1)
abbrev I_dfilter_parser_row_and (fu : Nat) : Prop := ∀ {p1 kind1 word1} {r : tFilter × tfilterparser}, dfilter_parser_row_and fu p1 kind1 word1 = some r → ACall Tryz.prog 124 1 [.ptr 0 0, .int .i64 kind1, .str (sB word1), .bfn 125 [.ptr 0 0]] [(0, 0, .sl (p1.L.map c_ttokenToken)), (0, 1, .bool p1.Bad)] [] (fun r_ H_ O_ n_ => r_ = .agg (c_tFilter r.1) ∧ H_ = [(0, 0, .sl (r.2.L.map c_ttokenToken)), (0, 1, .bool r.2.Bad)] ∧ O_ = [] ∧ n_ = 1)
abbrev I_dfilter_parser_and (fu : Nat) : Prop := ∀ {p1} {r : tFilter × tfilterparser}, dfilter_parser_and fu p1 = some r → ACall Tryz.prog 125 1 [.ptr 0 0] [(0, 0, .sl (p1.L.map c_ttokenToken)), (0, 1, .bool p1.Bad)] [] (fun r_ H_ O_ n_ => r_ = .agg (c_tFilter r.1) ∧ H_ = [(0, 0, .sl (r.2.L.map c_ttokenToken)), (0, 1, .bool r.2.Bad)] ∧ O_ = [] ∧ n_ = 1)
abbrev I_dfilter_parser_row_not (fu : Nat) : Prop := ∀ {p1 kind1 word1} {r : tFilter × tfilterparser}, dfilter_parser_row_not fu p1 kind1 word1 = some r → ACall Tryz.prog 124 1 [.ptr 0 0, .int .i64 kind1, .str (sB word1), .bfn 181 [.ptr 0 0]] [(0, 0, .sl (p1.L.map c_ttokenToken)), (0, 1, .bool p1.Bad)] [] (fun r_ H_ O_ n_ => r_ = .agg (c_tFilter r.1) ∧ H_ = [(0, 0, .sl (r.2.L.map c_ttokenToken)), (0, 1, .bool r.2.Bad)] ∧ O_ = [] ∧ n_ = 1)
abbrev I_dfilter_parser_not (fu : Nat) : Prop := ∀ {p1} {r : tFilter × tfilterparser}, dfilter_parser_not fu p1 = some r → ACall Tryz.prog 181 1 [.ptr 0 0] [(0, 0, .sl (p1.L.map c_ttokenToken)), (0, 1, .bool p1.Bad)] [] (fun r_ H_ O_ n_ => r_ = .agg (c_tFilter r.1) ∧ H_ = [(0, 0, .sl (r.2.L.map c_ttokenToken)), (0, 1, .bool r.2.Bad)] ∧ O_ = [] ∧ n_ = 1)
theorem dfilter_parser_or_s {fu : Nat} (ih_dfilter_parser_or : I_dfilter_parser_or fu) (ih_dfilter_parser_row_and : I_dfilter_parser_row_and fu) (ih_dfilter_parser_and : I_dfilter_parser_and fu) (ih_dfilter_parser_row_not : I_dfilter_parser_row_not fu) (ih_dfilter_parser_not : I_dfilter_parser_not fu) : I_dfilter_parser_or (fu + 1) := by
 intro p1 r h
 rw [dfilter_parser_or] at h
 refine aB_ Tryz.func78 ?_
 refine aSR (ra rfl rfl rfl (rn (aSR (rg 3 rfl (bx h fun x1 hx1 h_1 => ?_)))))
 obtain ⟨⟨kind1, name1, op1, vals1, l1⟩, x2⟩ := x1
 refine rh [0] rfl rfl (ih_dfilter_parser_row_and hx1) rfl rfl rfl zH zO (eA rfl rfl rfl rfl ?_)
 refine rs rfl rfl rfl rfl rfl rfl rfl (rn (aT ?_))
 obtain rfl := si h_1
 refine rW ?_
 exact rA [0]
theorem dfilter_parser_row_and_s {fu : Nat} (ih_dfilter_parser_or : I_dfilter_parser_or fu) (ih_dfilter_parser_row_and : I_dfilter_parser_row_and fu) (ih_dfilter_parser_and : I_dfilter_parser_and fu) (ih_dfilter_parser_row_not : I_dfilter_parser_row_not fu) (ih_dfilter_parser_not : I_dfilter_parser_not fu) : I_dfilter_parser_row_and (fu + 1) := by
 intro p1 kind1 word1 r h
 rw [dfilter_parser_row_and] at h
 refine aB_ Tryz.func124 ?_
 refine aSR (ra rfl rfl rfl (rn (aSR (rv rfl rfl (bx h fun x1 hx1 h_1 => ?_)))))
 obtain ⟨⟨kind2, name1, op1, vals1, l1⟩, x2⟩ := x1
 refine rhB [0] rfl rfl (ih_dfilter_parser_and hx1) rfl rfl rfl zH zO (eA rfl rfl rfl rfl ?_)
 refine ra rfl rfl rfl (rs rfl rfl rfl rfl rfl rfl rfl (rn (aSR (rv rfl rfl (rbs false rfl rfl rfl rfl rfl rfl rfl rfl rfl rfl (rv rfl rfl (rn (aS (bx h_1 fun e2 hl3 h_2 => awp_cut1 (fun x => x = e2) (fun (((x3, x4, l4)) : (List ttokenToken) × Bool × (List tFilter)) => ⟨[(1, .int .i64 kind1), (8, .ptr 1 0), (9, .ptr 2 0), (10, .own 3)], [(0, 0, .sl (x3.map c_ttokenToken)), (0, 1, .bool x4), (1, 0, .int .i64 0), (1, 1, .str (sB [])), (1, 2, .str (sB [])), (1, 3, .nilS), (1, 4, .nilS), (2, 0, .int .i64 kind2), (2, 1, .str (sB name1)), (2, 2, .str (sB op1)), (2, 3, .sl (vals1.map c_tAttr)), (2, 4, .sl (cs_tFilter l1))], [(3, .row 5 (cs_tFilter l4))], 4⟩) ?_ ?_)))))))))
 ·clear h h_1
  refine aB (awp_loopD hl3 (fun (((p2, p3, l2)) : (List ttokenToken) × Bool × (List tFilter)) => ⟨[(0, .ptr 0 0), (1, .int .i64 kind1), (2, .str (sB word1)), (3, .bfn 125 [.ptr 0 0]), (8, .ptr 1 0), (9, .ptr 2 0), (10, .own 3)], [(0, 0, .sl (p2.map c_ttokenToken)), (0, 1, .bool p3), (1, 0, .int .i64 0), (1, 1, .str (sB [])), (1, 2, .str (sB [])), (1, 3, .nilS), (1, 4, .nilS), (2, 0, .int .i64 kind2), (2, 1, .str (sB name1)), (2, 2, .str (sB op1)), (2, 3, .sl (vals1.map c_tAttr)), (2, 4, .sl (cs_tFilter l1))], [(3, .row 5 (cs_tFilter l2))], 4⟩) [0,1,2,3] rfl zs ?_)
  intro v o6 ho4 hE5
  obtain ⟨p2, p3, l2⟩ := v
  refine ch (aS (aSR (rg 2 rfl (bx ho4 fun x5 hx7 ho4_1 => rh [0] rfl rfl (dfilter_parser_takes_l hx7) rfl rfl rfl zH zO (eA rfl rfl rfl rfl ?_)))))
  refine rn (cS2 rfl ho4_1 (fun ho4_2 => ?_) fun ho4_2 => ?_)
  ·clear ho4 ho4_1
   refine aK (aB (aR (rg 2 rfl (bx ho4_2 fun l5 hx8 ho4_3 => ?_))))
   obtain ⟨⟨kind3, name2, op2, vals2, l6⟩, l7⟩ := l5
   refine rhB [0] rfl rfl (ih_dfilter_parser_and hx8) rfl rfl rfl zH zO (eA rfl rfl rfl rfl ?_)
   exact rbs false rfl rfl rfl rfl rfl rfl rfl rfl rfl rfl (bx ho4_3 fun l8 hx9 ho4_4 => rap false (z := 5) (xs := cs_tFilter l2) (ys := cs_tFilter [(tFilter.mk kind3 name2 op2 vals2 l6)]) rfl rfl rfl rfl rfl rfl rfl (.own rfl rfl) (.sl rfl rfl rfl) (wM_tFilter _) (oM_tFilter _) (apB_tFilter rfl hx9) rfl (rk (congrArg (Kind.row _) (apM_tFilter hx9)) (rv rfl rfl (rn (inBlock_normal (si ho4_4 ▸ lN [0,1,2,5]))))))
  clear ho4 ho4_1
  refine awp_exit (xX ?_)
  cases ho4_2
  have hq := hE5 _ rfl
  subst hq
  exact cN [0,1,2,3]
 clear h h_1
 rintro ⟨x3, x4, l4⟩ rfl
 refine ch (aS (aSR (rg 2 rfl (rt ((lM_tFilter l4)) (rv rfl rfl (rn (cS2 rfl h_2 (fun h_3 => ?_) fun h_3 => ?_)))))))
 ·clear h_2
  refine aSR (rv rfl rfl (rs rfl rfl rfl rfl rfl rfl rfl (rn (aT ?_))))
  obtain rfl := si h_3
  refine rW ?_
  exact rA [0]
 clear h_2
 refine aK (aSR (rg 2 rfl (ra rfl rfl rfl (rs rfl rfl rfl rfl rfl rfl rfl (rn (aS (aSR (rg 2 rfl (rt ((lM_tFilter l4)) (rv rfl rfl (rn (awp_conv (fun _ _ _ _ _ hi => nilS_cell false 5 4 4 rfl hi) (bx h_3 fun e10 hl11 h_4 => awp_cut1 (fun x => x = e10) (fun (l11 : List tFilter) => ⟨[(8, .ptr 1 0), (11, .ptr 2 0)], [(0, 0, .sl (x3.map c_ttokenToken)), (0, 1, .bool x4), (1, 0, .int .i64 0), (1, 1, .str (sB [])), (1, 2, .str (sB [])), (1, 3, .nilS), (1, 4, .nilS), (2, 0, .int .i64 kind1), (2, 1, .str (sB [])), (2, 2, .str (sB [])), (2, 3, .nilS), (2, 4, .own 3)], [(3, .row 5 (cs_tFilter l11))], 4⟩) ?_ ?_)))))))))))))
 ·clear h_3
  refine aB (awp_loopD hl11 (fun (((x6, l9)) : Int × (List tFilter)) => ⟨[(1, .int .i64 kind1), (8, .ptr 1 0), (11, .ptr 2 0), (32, .own 3), (33, .int .i64 (l4.length : Int)), (34, .int .i64 x6)], [(0, 0, .sl (x3.map c_ttokenToken)), (0, 1, .bool x4), (1, 0, .int .i64 0), (1, 1, .str (sB [])), (1, 2, .str (sB [])), (1, 3, .nilS), (1, 4, .nilS), (2, 0, .int .i64 kind1), (2, 1, .str (sB [])), (2, 2, .str (sB [])), (2, 3, .nilS), (2, 4, .own 4)], [(3, .row 5 (cs_tFilter l4)), (4, .row 5 (cs_tFilter l9))], 5⟩) [0,1,4,3,5] rfl zs ?_)
  intro v o14 ho12 hE13
  obtain ⟨x6, l9⟩ := v
  refine ch (aSR (rv rfl rfl (rn (aS (cS2 rfl ho12 (fun ho12_1 => ?_) fun ho12_1 => ?_)))))
  ·clear ho12
   refine aK (aS (bx ho12_1 fun o15 ho16 ho12_2 => awp_cut1 (fun x => x = o15) (fun (l12 : List tFilter) => ⟨[(1, .int .i64 kind1), (8, .ptr 1 0), (11, .ptr 2 0), (32, .own 3), (33, .int .i64 (l4.length : Int)), (34, .int .i64 x6)], [(0, 0, .sl (x3.map c_ttokenToken)), (0, 1, .bool x4), (1, 0, .int .i64 0), (1, 1, .str (sB [])), (1, 2, .str (sB [])), (1, 3, .nilS), (1, 4, .nilS), (2, 0, .int .i64 kind1), (2, 1, .str (sB [])), (2, 2, .str (sB [])), (2, 3, .nilS), (2, 4, .own 4)], [(3, .row 5 (cs_tFilter l4)), (4, .row 5 (cs_tFilter l12))], 5⟩) ?_ ?_))
   ·clear ho12_1
    refine aB (aSR (bx ho16 fun x8 hx17 ho16_1 => ri rfl rfl rfl rfl rfl rfl (gi0 hx17) (giM_tFilter hx17) (wM_tFilter _) ?_))
    obtain ⟨kind4, name3, op3, vals3, l13⟩ := x8
    refine rv rfl rfl (ra rfl rfl rfl (rs rfl rfl rfl rfl rfl rfl rfl (rn (aSR (rg 4 rfl (rn (cS2 rfl ho16_1 (fun ho16_2 => ?_) fun ho16_2 => ?_)))))))
    ·clear ho16 ho16_1
     exact aR (rg 4 rfl (bx ho16_2 fun l14 hx18 ho16_3 => rap false (z := 5) (xs := cs_tFilter l9) (ys := cs_tFilter l13) rfl rfl rfl rfl rfl rfl rfl (.own rfl rfl) (.sl rfl rfl rfl) (wM_tFilter _) (oM_tFilter _) (apB_tFilter rfl hx18) rfl (rk (congrArg (Kind.row _) (apM_tFilter hx18)) (rv rfl rfl (rs rfl rfl rfl rfl rfl rfl rfl (rn (inBlock_normal (si ho16_3 ▸ cN [0,1,2,3,6]))))))))
    clear ho16 ho16_1
    exact aR (rg 3 rfl (rbs false rfl rfl rfl rfl rfl rfl rfl rfl rfl rfl (bx ho16_2 fun l15 hx19 ho16_3 => rap false (z := 5) (xs := cs_tFilter l9) (ys := cs_tFilter [(tFilter.mk kind4 name3 op3 vals3 l13)]) rfl rfl rfl rfl rfl rfl rfl (.own rfl rfl) (.sl rfl rfl rfl) (wM_tFilter _) (oM_tFilter _) (apB_tFilter rfl hx19) rfl (rk (congrArg (Kind.row _) (apM_tFilter hx19)) (rv rfl rfl (rs rfl rfl rfl rfl rfl rfl rfl (rn (inBlock_normal (si ho16_3 ▸ cN [0,1,2,3,7])))))))))
   clear ho12_1
   rintro l12 rfl
   exact ch (aR (rg 2 rfl (rn (si ho12_2 ▸ lN [0,1,2,3,4]))))
  clear ho12
  refine awp_exit (xX ?_)
  cases ho12_1
  have hq := hE13 _ rfl
  subst hq
  exact cN [0,1,2,4]
 clear h_3
 rintro l11 rfl
 refine aSR (rv rfl rfl (rs rfl rfl rfl rfl rfl rfl rfl (rn (aT ?_))))
 obtain rfl := si h_4
 refine rW ?_
 exact rA [0]
theorem dfilter_parser_and_s {fu : Nat} (ih_dfilter_parser_or : I_dfilter_parser_or fu) (ih_dfilter_parser_row_and : I_dfilter_parser_row_and fu) (ih_dfilter_parser_and : I_dfilter_parser_and fu) (ih_dfilter_parser_row_not : I_dfilter_parser_row_not fu) (ih_dfilter_parser_not : I_dfilter_parser_not fu) : I_dfilter_parser_and (fu + 1) := by
 intro p1 r h
 rw [dfilter_parser_and] at h
 refine aB_ Tryz.func125 ?_
 refine aSR (ra rfl rfl rfl (rn (aSR (rg 3 rfl (bx h fun x1 hx1 h_1 => ?_)))))
 obtain ⟨⟨kind1, name1, op1, vals1, l1⟩, x2⟩ := x1
 refine rh [0] rfl rfl (ih_dfilter_parser_row_not hx1) rfl rfl rfl zH zO (eA rfl rfl rfl rfl ?_)
 refine rs rfl rfl rfl rfl rfl rfl rfl (rn (aT ?_))
 obtain rfl := si h_1
 refine rW ?_
 exact rA [0]
theorem dfilter_parser_row_not_s {fu : Nat} (ih_dfilter_parser_or : I_dfilter_parser_or fu) (ih_dfilter_parser_row_and : I_dfilter_parser_row_and fu) (ih_dfilter_parser_and : I_dfilter_parser_and fu) (ih_dfilter_parser_row_not : I_dfilter_parser_row_not fu) (ih_dfilter_parser_not : I_dfilter_parser_not fu) : I_dfilter_parser_row_not (fu + 1) := by
 intro p1 kind1 word1 r h
 rw [dfilter_parser_row_not] at h
 refine aB_ Tryz.func124 ?_
 refine aSR (ra rfl rfl rfl (rn (aSR (rv rfl rfl (bx h fun x1 hx1 h_1 => ?_)))))
 obtain ⟨⟨kind2, name1, op1, vals1, l1⟩, x2⟩ := x1
 refine rhB [0] rfl rfl (ih_dfilter_parser_not hx1) rfl rfl rfl zH zO (eA rfl rfl rfl rfl ?_)
 refine ra rfl rfl rfl (rs rfl rfl rfl rfl rfl rfl rfl (rn (aSR (rv rfl rfl (rbs false rfl rfl rfl rfl rfl rfl rfl rfl rfl rfl (rv rfl rfl (rn (aS (bx h_1 fun e2 hl3 h_2 => awp_cut1 (fun x => x = e2) (fun (((x3, x4, l4)) : (List ttokenToken) × Bool × (List tFilter)) => ⟨[(1, .int .i64 kind1), (8, .ptr 1 0), (9, .ptr 2 0), (10, .own 3)], [(0, 0, .sl (x3.map c_ttokenToken)), (0, 1, .bool x4), (1, 0, .int .i64 0), (1, 1, .str (sB [])), (1, 2, .str (sB [])), (1, 3, .nilS), (1, 4, .nilS), (2, 0, .int .i64 kind2), (2, 1, .str (sB name1)), (2, 2, .str (sB op1)), (2, 3, .sl (vals1.map c_tAttr)), (2, 4, .sl (cs_tFilter l1))], [(3, .row 5 (cs_tFilter l4))], 4⟩) ?_ ?_)))))))))
 ·clear h h_1
  refine aB (awp_loopD hl3 (fun (((p2, p3, l2)) : (List ttokenToken) × Bool × (List tFilter)) => ⟨[(0, .ptr 0 0), (1, .int .i64 kind1), (2, .str (sB word1)), (3, .bfn 181 [.ptr 0 0]), (8, .ptr 1 0), (9, .ptr 2 0), (10, .own 3)], [(0, 0, .sl (p2.map c_ttokenToken)), (0, 1, .bool p3), (1, 0, .int .i64 0), (1, 1, .str (sB [])), (1, 2, .str (sB [])), (1, 3, .nilS), (1, 4, .nilS), (2, 0, .int .i64 kind2), (2, 1, .str (sB name1)), (2, 2, .str (sB op1)), (2, 3, .sl (vals1.map c_tAttr)), (2, 4, .sl (cs_tFilter l1))], [(3, .row 5 (cs_tFilter l2))], 4⟩) [0,1,2,3] rfl zs ?_)
  intro v o6 ho4 hE5
  obtain ⟨p2, p3, l2⟩ := v
  refine ch (aS (aSR (rg 2 rfl (bx ho4 fun x5 hx7 ho4_1 => rh [0] rfl rfl (dfilter_parser_takes_l hx7) rfl rfl rfl zH zO (eA rfl rfl rfl rfl ?_)))))
  refine rn (cS2 rfl ho4_1 (fun ho4_2 => ?_) fun ho4_2 => ?_)
  ·clear ho4 ho4_1
   refine aK (aB (aR (rg 2 rfl (bx ho4_2 fun l5 hx8 ho4_3 => ?_))))
   obtain ⟨⟨kind3, name2, op2, vals2, l6⟩, l7⟩ := l5
   refine rhB [0] rfl rfl (ih_dfilter_parser_not hx8) rfl rfl rfl zH zO (eA rfl rfl rfl rfl ?_)
   exact rbs false rfl rfl rfl rfl rfl rfl rfl rfl rfl rfl (bx ho4_3 fun l8 hx9 ho4_4 => rap false (z := 5) (xs := cs_tFilter l2) (ys := cs_tFilter [(tFilter.mk kind3 name2 op2 vals2 l6)]) rfl rfl rfl rfl rfl rfl rfl (.own rfl rfl) (.sl rfl rfl rfl) (wM_tFilter _) (oM_tFilter _) (apB_tFilter rfl hx9) rfl (rk (congrArg (Kind.row _) (apM_tFilter hx9)) (rv rfl rfl (rn (inBlock_normal (si ho4_4 ▸ lN [0,1,2,5]))))))
  clear ho4 ho4_1
  refine awp_exit (xX ?_)
  cases ho4_2
  have hq := hE5 _ rfl
  subst hq
  exact cN [0,1,2,3]
 clear h h_1
 rintro ⟨x3, x4, l4⟩ rfl
 refine ch (aS (aSR (rg 2 rfl (rt ((lM_tFilter l4)) (rv rfl rfl (rn (cS2 rfl h_2 (fun h_3 => ?_) fun h_3 => ?_)))))))
 ·clear h_2
  refine aSR (rv rfl rfl (rs rfl rfl rfl rfl rfl rfl rfl (rn (aT ?_))))
  obtain rfl := si h_3
  refine rW ?_
  exact rA [0]
 clear h_2
 refine aK (aSR (rg 2 rfl (ra rfl rfl rfl (rs rfl rfl rfl rfl rfl rfl rfl (rn (aS (aSR (rg 2 rfl (rt ((lM_tFilter l4)) (rv rfl rfl (rn (awp_conv (fun _ _ _ _ _ hi => nilS_cell false 5 4 4 rfl hi) (bx h_3 fun e10 hl11 h_4 => awp_cut1 (fun x => x = e10) (fun (l11 : List tFilter) => ⟨[(8, .ptr 1 0), (11, .ptr 2 0)], [(0, 0, .sl (x3.map c_ttokenToken)), (0, 1, .bool x4), (1, 0, .int .i64 0), (1, 1, .str (sB [])), (1, 2, .str (sB [])), (1, 3, .nilS), (1, 4, .nilS), (2, 0, .int .i64 kind1), (2, 1, .str (sB [])), (2, 2, .str (sB [])), (2, 3, .nilS), (2, 4, .own 3)], [(3, .row 5 (cs_tFilter l11))], 4⟩) ?_ ?_)))))))))))))
 ·clear h_3
  refine aB (awp_loopD hl11 (fun (((x6, l9)) : Int × (List tFilter)) => ⟨[(1, .int .i64 kind1), (8, .ptr 1 0), (11, .ptr 2 0), (32, .own 3), (33, .int .i64 (l4.length : Int)), (34, .int .i64 x6)], [(0, 0, .sl (x3.map c_ttokenToken)), (0, 1, .bool x4), (1, 0, .int .i64 0), (1, 1, .str (sB [])), (1, 2, .str (sB [])), (1, 3, .nilS), (1, 4, .nilS), (2, 0, .int .i64 kind1), (2, 1, .str (sB [])), (2, 2, .str (sB [])), (2, 3, .nilS), (2, 4, .own 4)], [(3, .row 5 (cs_tFilter l4)), (4, .row 5 (cs_tFilter l9))], 5⟩) [0,1,4,3,5] rfl zs ?_)
  intro v o14 ho12 hE13
  obtain ⟨x6, l9⟩ := v
  refine ch (aSR (rv rfl rfl (rn (aS (cS2 rfl ho12 (fun ho12_1 => ?_) fun ho12_1 => ?_)))))
  ·clear ho12
   refine aK (aS (bx ho12_1 fun o15 ho16 ho12_2 => awp_cut1 (fun x => x = o15) (fun (l12 : List tFilter) => ⟨[(1, .int .i64 kind1), (8, .ptr 1 0), (11, .ptr 2 0), (32, .own 3), (33, .int .i64 (l4.length : Int)), (34, .int .i64 x6)], [(0, 0, .sl (x3.map c_ttokenToken)), (0, 1, .bool x4), (1, 0, .int .i64 0), (1, 1, .str (sB [])), (1, 2, .str (sB [])), (1, 3, .nilS), (1, 4, .nilS), (2, 0, .int .i64 kind1), (2, 1, .str (sB [])), (2, 2, .str (sB [])), (2, 3, .nilS), (2, 4, .own 4)], [(3, .row 5 (cs_tFilter l4)), (4, .row 5 (cs_tFilter l12))], 5⟩) ?_ ?_))
   ·clear ho12_1
    refine aB (aSR (bx ho16 fun x8 hx17 ho16_1 => ri rfl rfl rfl rfl rfl rfl (gi0 hx17) (giM_tFilter hx17) (wM_tFilter _) ?_))
    obtain ⟨kind4, name3, op3, vals3, l13⟩ := x8
    refine rv rfl rfl (ra rfl rfl rfl (rs rfl rfl rfl rfl rfl rfl rfl (rn (aSR (rg 4 rfl (rn (cS2 rfl ho16_1 (fun ho16_2 => ?_) fun ho16_2 => ?_)))))))
    ·clear ho16 ho16_1
     exact aR (rg 4 rfl (bx ho16_2 fun l14 hx18 ho16_3 => rap false (z := 5) (xs := cs_tFilter l9) (ys := cs_tFilter l13) rfl rfl rfl rfl rfl rfl rfl (.own rfl rfl) (.sl rfl rfl rfl) (wM_tFilter _) (oM_tFilter _) (apB_tFilter rfl hx18) rfl (rk (congrArg (Kind.row _) (apM_tFilter hx18)) (rv rfl rfl (rs rfl rfl rfl rfl rfl rfl rfl (rn (inBlock_normal (si ho16_3 ▸ cN [0,1,2,3,6]))))))))
    clear ho16 ho16_1
    exact aR (rg 3 rfl (rbs false rfl rfl rfl rfl rfl rfl rfl rfl rfl rfl (bx ho16_2 fun l15 hx19 ho16_3 => rap false (z := 5) (xs := cs_tFilter l9) (ys := cs_tFilter [(tFilter.mk kind4 name3 op3 vals3 l13)]) rfl rfl rfl rfl rfl rfl rfl (.own rfl rfl) (.sl rfl rfl rfl) (wM_tFilter _) (oM_tFilter _) (apB_tFilter rfl hx19) rfl (rk (congrArg (Kind.row _) (apM_tFilter hx19)) (rv rfl rfl (rs rfl rfl rfl rfl rfl rfl rfl (rn (inBlock_normal (si ho16_3 ▸ cN [0,1,2,3,7])))))))))
   clear ho12_1
   rintro l12 rfl
   exact ch (aR (rg 2 rfl (rn (si ho12_2 ▸ lN [0,1,2,3,4]))))
  clear ho12
  refine awp_exit (xX ?_)
  cases ho12_1
  have hq := hE13 _ rfl
  subst hq
  exact cN [0,1,2,4]
 clear h_3
 rintro l11 rfl
 refine aSR (rv rfl rfl (rs rfl rfl rfl rfl rfl rfl rfl (rn (aT ?_))))
 obtain rfl := si h_4
 refine rW ?_
 exact rA [0]
theorem dfilter_parser_not_s {fu : Nat} (ih_dfilter_parser_or : I_dfilter_parser_or fu) (ih_dfilter_parser_row_and : I_dfilter_parser_row_and fu) (ih_dfilter_parser_and : I_dfilter_parser_and fu) (ih_dfilter_parser_row_not : I_dfilter_parser_row_not fu) (ih_dfilter_parser_not : I_dfilter_parser_not fu) : I_dfilter_parser_not (fu + 1) := by
 intro p1 r h
 rw [dfilter_parser_not] at h
 refine aB_ Tryz.func181 ?_
 refine aSR (ra rfl rfl rfl (rn (aS (aB (aSR (rv rfl rfl (bx h fun x1 hx1 h_1 => rh [0] rfl rfl (dfilter_parser_takes_l hx1) rfl rfl rfl zH zO (eA rfl rfl rfl rfl ?_))))))))
 refine rv rfl rfl (rn (cS2 rfl h_1 (fun h_2 => ?_) fun h_2 => ?_))
 ·clear h h_1
  refine aSR (rv rfl rfl (bx h_2 fun x2 hx2 h_3 => ?_))
  obtain ⟨⟨kind1, name1, op1, vals1, l1⟩, x3⟩ := x2
  refine rh [0] rfl rfl (ih_dfilter_parser_not hx2) rfl rfl rfl zH zO (eA rfl rfl rfl rfl ?_)
  refine rbs false rfl rfl rfl rfl rfl rfl rfl rfl rfl rfl (rv rfl rfl (rs rfl rfl rfl rfl rfl rfl rfl (rn (aT ?_))))
  obtain rfl := si h_3
  refine rW ?_
  exact rA [0]
 clear h h_1
 refine aSR (rv rfl rfl (bx h_2 fun x4 hx3 h_3 => rh [0] rfl rfl (dfilter_parser_takes_l hx3) rfl rfl rfl zH zO (eA rfl rfl rfl rfl ?_)))
 refine rv rfl rfl (rn (cS2 rfl h_3 (fun h_4 => ?_) fun h_4 => ?_))
 ·clear h_2 h_3
  refine aSR (rv rfl rfl (bx h_4 fun x5 hx4 h_5 => ?_))
  obtain ⟨⟨kind2, name2, op2, vals2, l2⟩, x6⟩ := x5
  refine rh [0] rfl rfl (ih_dfilter_parser_or hx4) rfl rfl rfl zH zO (eA rfl rfl rfl rfl ?_)
  refine ra rfl rfl rfl (rs rfl rfl rfl rfl rfl rfl rfl (rn (aSR (rg 2 rfl (bx h_5 fun x7 hx5 h_6 => rh [0] rfl rfl (dfilter_parser_takes_l hx5) rfl rfl rfl zH zO (eA rfl rfl rfl rfl ?_))))))
  refine bx h_6 fun x8 hx6 h_7 => rh [0] rfl rfl (dfilter_parser_must_l hx6) rfl rfl rfl zH zO (eA rfl rfl rfl rfl ?_)
  refine rn (aSR (rv rfl rfl (rs rfl rfl rfl rfl rfl rfl rfl (rn (aT ?_)))))
  obtain rfl := si h_7
  refine rW ?_
  exact rA [0]
 clear h_2 h_3
 refine aSR (rv rfl rfl (bx h_4 fun x9 hx7 h_5 => rh [0] rfl rfl (dfilter_parser_takes_l hx7) rfl rfl rfl zH zO (eA rfl rfl rfl rfl ?_)))
 refine rv rfl rfl (rn (cS2 rfl h_5 (fun h_6 => ?_) fun h_6 => ?_))
 ·clear h_4 h_5
  refine aSR (rv rfl rfl (rs rfl rfl rfl rfl rfl rfl rfl (rn (aT ?_))))
  obtain rfl := si h_6
  refine rW ?_
  exact rA [0]
 clear h_4 h_5
 refine aK (inBlock_normal (aSR (rv rfl rfl (bx h_6 fun x10 hx8 h_7 => ?_))))
 obtain ⟨⟨kind3, name3, op3, vals3, l3⟩, x11⟩ := x10
 refine rh [0] rfl rfl (dfilter_parser_leaf_l hx8) rfl rfl rfl zH zO (eA rfl rfl rfl rfl ?_)
 refine rs rfl rfl rfl rfl rfl rfl rfl (rn (aT ?_))
 obtain rfl := si h_7
 refine rW ?_
 exact rA [0]
end
theorem rec_dfilter_parser_or : ∀ fu : Nat, I_dfilter_parser_or fu ∧ I_dfilter_parser_row_and fu ∧ I_dfilter_parser_and fu ∧ I_dfilter_parser_row_not fu ∧ I_dfilter_parser_not fu
  | 0 => ⟨fun h => by simp [dfilter_parser_or] at h, fun h => by simp [dfilter_parser_row_and] at h, fun h => by simp [dfilter_parser_and] at h, fun h => by simp [dfilter_parser_row_not] at h, fun h => by simp [dfilter_parser_not] at h⟩
  | fu + 1 => by
    obtain ⟨i0, i1, i2, i3, i4⟩ := rec_dfilter_parser_or fu
    exact ⟨dfilter_parser_or_s i0 i1 i2 i3 i4, dfilter_parser_row_and_s i0 i1 i2 i3 i4, dfilter_parser_and_s i0 i1 i2 i3 i4, dfilter_parser_row_not_s i0 i1 i2 i3 i4, dfilter_parser_not_s i0 i1 i2 i3 i4⟩
theorem dfilter_parser_or_l {fu : Nat} : I_dfilter_parser_or fu := (rec_dfilter_parser_or fu).1
def dfilter_Read (fu : Nat) (s1 : Str) : Option (tFilter × Er) :=
  (dtoken_Cut fu s1).bind fun l1 => bif l1.2.isSome then some ((tFilter.mk 0 [] [] [] []), l1.2) else ((dfilter_parser_or fu (tfilterparser.mk l1.1 false)).bind fun x1 => match x1 with | (.mk kind1 name1 op1 vals1 l2, x2) => (bif x2.Bad then some true else some (decide ((x2.L.length : Int) > 0)) : Option Bool).bind fun (x3 : Bool) => (bif x3 then some ((tFilter.mk 0 [] [] [] []), (some 3)) else ((dfilter_May fu (tFilter.mk kind1 name1 op1 vals1 l2)).bind fun x4 => bif (!x4) then some ((tFilter.mk 0 [] [] [] []), (some 5)) else some ((tFilter.mk kind1 name1 op1 vals1 l2), none))))
section
attribute [local irreducible] awp aops DP PCall ACall Decidable.decide
theorem dfilter_Read_l {fu : Nat} {s1 : Str} {r : tFilter × Er} (h : dfilter_Read fu s1 = some r) : PCall Tryz.prog 44 [.str (sB s1)] (· = .tup [.agg (c_tFilter r.1), .err 55 r.2]) := by
 rw [dfilter_Read] at h
 refine pB_ Tryz.func44 ?_
 refine aSR (ra rfl rfl rfl (rv rfl rfl (rn (aSR (rv rfl rfl (bx h fun l1 hx1 h_1 => rc1 rfl rfl rfl (dtoken_Cut_l hx1) (rg 5 rfl (rn (aS (aSR (rv rfl rfl (rV rfl (va_ennil rfl rfl rfl) (rn (cS2 rfl h_1 (fun h_2 => ?_) fun h_2 => ?_))))))))))))))
 ·clear h h_1
  exact aSR (rg 2 rfl (rs rfl rfl rfl rfl rfl rfl rfl (rv rfl rfl (rn (aT (si h_2 ▸ rF))))))
 clear h h_1
 refine aK (aSR (rg 2 rfl (rb rfl rfl (rv rfl rfl (rn (aSR (rv rfl rfl (bx h_2 fun x1 hx2 h_3 => ?_))))))))
 obtain ⟨⟨kind1, name1, op1, vals1, l2⟩, x2⟩ := x1
 refine rh [1] rfl rfl (dfilter_parser_or_l hx2) rfl rfl rfl zH zO (eA rfl rfl rfl rfl ?_)
 refine ra rfl rfl rfl (rs rfl rfl rfl rfl rfl rfl rfl (rn (aS (aB (aS (bx h_3 fun o3 ho4 h_4 => awp_cut1 (fun x => x = o3) (fun (x3 : Bool) => ⟨[(2, .ptr 0 0), (7, .ptr 1 0), (22, .bool x3)], [(0, 0, .int .i64 0), (0, 1, .str (sB [])), (0, 2, .str (sB [])), (0, 3, .nilS), (0, 4, .nilS), (1, 0, .int .i64 kind1), (1, 1, .str (sB name1)), (1, 2, .str (sB op1)), (1, 3, .sl (vals1.map c_tAttr)), (1, 4, .sl (cs_tFilter l2))], [], 2⟩) ?_ ?_))))))
 ·clear h_2 h_3
  refine aR (rg 5 rfl (gF2 rfl rfl rfl rfl rfl ho4 (fun ho4_1 => ?_) fun ho4_1 => ?_))
  ·clear ho4
   exact rg 5 rfl (rt ((lM c_ttokenToken x2.L)) (rg 3 rfl (rn (si ho4_1 ▸ cN [0,2]))))
  clear ho4
  exact rg 7 rfl (rn (si ho4_1 ▸ cN [0,2]))
 clear h_2 h_3
 rintro x3 rfl
 refine ch (cS2 rfl h_4 (fun h_5 => ?_) fun h_5 => ?_)
 ·clear h_4
  exact aSR (rg 2 rfl (rs rfl rfl rfl rfl rfl rfl rfl (rv rfl rfl (rn (awp_conv (fun _ _ _ _ _ hi => err_slot 55 3 (some 3) rfl hi) (aT (si h_5 ▸ rF)))))))
 clear h_4
 refine aSR (rv rfl rfl (bx h_5 fun x4 hx5 h_6 => rc1 rfl rfl rfl (dfilter_May_l hx5) (rg 2 rfl (rn (cS2 rfl h_6 (fun h_7 => ?_) fun h_7 => ?_)))))
 ·clear h_5 h_6
  exact aSR (rg 2 rfl (rs rfl rfl rfl rfl rfl rfl rfl (rv rfl rfl (rn (awp_conv (fun _ _ _ _ _ hi => err_slot 55 3 (some 5) rfl hi) (aT (si h_7 ▸ rF)))))))
 clear h_5 h_6
 exact aK (inBlock_normal (aSR (rv rfl rfl (rs rfl rfl rfl rfl rfl rfl rfl (rv rfl rfl (rn (awp_conv (fun _ _ _ _ _ hi => err_slot 55 3 none rfl hi) (aT (si h_7 ▸ rF)))))))))
end
end Go.Proofs.YtbkomicjhfldmaaGreatDoor
namespace Go.Proofs.YtbkomicjhfldmaaGreatDoor
open Go.Pv
set_option maxRecDepth 100000
set_option maxHeartbeats 4000000
set_option linter.unusedSimpArgs false
set_option linter.unusedVariables false
set_option linter.unusedSectionVars false
def dbytealg_CompareString (fu : Nat) (a1 : Str) (b1 : Str) : Option Int :=
  (some (Lib.compareBytes a1 b1)).bind fun x1 => some x1
section
attribute [local irreducible] awp aops DP PCall ACall Decidable.decide
theorem dbytealg_CompareString_l {fu : Nat} {a1 : Str} {b1 : Str} {r : Int} (h : dbytealg_CompareString fu a1 b1 = some r) : PCall Tryz.prog 240 [.str (sB a1), .str (sB b1)] (· = .int .i64 r) := by
 rw [dbytealg_CompareString] at h
 refine pB_ Tryz.func240 ?_
 refine aSR (rv rfl rfl (rn (aSR (rg 2 rfl (rV rfl (va_cmp Tryz.func259 (by kernel_rfl) (by kernel_rfl) (by kernel_rfl) (by kernel_rfl) rfl rfl) (rv rfl rfl ?_))))))
 obtain ⟨x1, hx1, h_1⟩ := bs h
 exact rt (ei' hx1) (rn (aT (si h_1 ▸ rF)))
def dstrings_Compare (fu : Nat) (a1 : Str) (b1 : Str) : Option Int :=
  (dbytealg_CompareString fu a1 b1).bind fun x1 => some x1
theorem dstrings_Compare_l {fu : Nat} {a1 : Str} {b1 : Str} {r : Int} (h : dstrings_Compare fu a1 b1 = some r) : PCall Tryz.prog 212 [.str (sB a1), .str (sB b1)] (· = .int .i64 r) := by
 rw [dstrings_Compare] at h
 refine pB_ Tryz.func212 ?_
 exact aSR (rv rfl rfl (rn (aSR (rg 2 rfl (bx h fun x1 hx1 h_1 => rc1 rfl rfl rfl (dbytealg_CompareString_l hx1) (rv rfl rfl (rn (aT (si h_1 ▸ rF)))))))))
def dcmp_isNaN_int64 (fu : Nat) (x1 : Int) : Option Bool :=
  some (x1 != x1)
theorem dcmp_isNaN_int64_l {fu : Nat} {x1 : Int} {r : Bool} (h : dcmp_isNaN_int64 fu x1 = some r) : PCall Tryz.prog 239 [.int .i64 x1] (· = .bool r) := by
 rw [dcmp_isNaN_int64] at h
 refine pB_ Tryz.func239 ?_
 exact aSR (rv rfl rfl (rn (aSR (rg 4 rfl (rn (aT (si h ▸ rF)))))))
def dcmp_Compare_int64 (fu : Nat) (x1 : Int) (y1 : Int) : Option Int :=
  (dcmp_isNaN_int64 fu x1).bind fun xNaN1 => (dcmp_isNaN_int64 fu y1).bind fun yNaN1 => bif xNaN1 then (bif yNaN1 then some 0 else some (-1)) else (bif yNaN1 then some 1 else (bif (decide (x1 < y1)) then some (-1) else (bif (decide (x1 > y1)) then some 1 else some 0)))
theorem dcmp_Compare_int64_l {fu : Nat} {x1 : Int} {y1 : Int} {r : Int} (h : dcmp_Compare_int64 fu x1 y1 = some r) : PCall Tryz.prog 209 [.int .i64 x1, .int .i64 y1] (· = .int .i64 r) := by
 rw [dcmp_Compare_int64] at h
 refine pB_ Tryz.func209 ?_
 refine aSR (rv rfl rfl (rn (aSR (rv rfl rfl (bx h fun xNaN1 hx1 h_1 => rc1 rfl rfl rfl (dcmp_isNaN_int64_l hx1) (rv rfl rfl (rn (aSR (rv rfl rfl (bx h_1 fun yNaN1 hx2 h_2 => rc1 rfl rfl rfl (dcmp_isNaN_int64_l hx2) (rv rfl rfl (rn (aS (aSR (rv rfl rfl (rn (cS2 rfl h_2 (fun h_3 => ?_) fun h_3 => ?_)))))))))))))))))
 ·clear h h_1 h_2
  refine aS (aSR (rv rfl rfl (rn (cS2 rfl h_3 (fun h_4 => ?_) fun h_4 => ?_))))
  ·clear h_3
   exact aSR (rv rfl rfl (rn (aT (si h_4 ▸ rF))))
  clear h_3
  exact aK (aSR (rv rfl rfl (rn (aT (si h_4 ▸ rF)))))
 clear h h_1 h_2
 refine aK (aS (aSR (rv rfl rfl (rn (cS2 rfl h_3 (fun h_4 => ?_) fun h_4 => ?_)))))
 ·clear h_3
  exact aSR (rv rfl rfl (rn (aT (si h_4 ▸ rF))))
 clear h_3
 refine aK (aS (aSR (rg 3 rfl (rn (cS2 rfl h_4 (fun h_5 => ?_) fun h_5 => ?_)))))
 ·clear h_4
  exact aSR (rv rfl rfl (rn (aT (si h_5 ▸ rF))))
 clear h_4
 refine aK (aS (aSR (rg 3 rfl (rn (cS2 rfl h_5 (fun h_6 => ?_) fun h_6 => ?_)))))
 ·clear h_5
  exact aSR (rv rfl rfl (rn (aT (si h_6 ▸ rF))))
 clear h_5
 exact aK (aSR (rv rfl rfl (rn (aT (si h_6 ▸ rF)))))
def deval_stands (fu : Nat) (op1 : Str) (n1 : Int) : Option Bool :=
  bif (op1 == [60]) then some (decide (n1 < 0)) else (bif (op1 == [60, 61]) then some (decide (n1 ≤ 0)) else (bif (op1 == [61]) then some (n1 == 0) else (bif (op1 == [33, 61]) then some (n1 != 0) else (bif (op1 == [62, 61]) then some (decide (n1 ≥ 0)) else (bif (op1 == [62]) then some (decide (n1 > 0)) else some false)))))
theorem deval_stands_l {fu : Nat} {op1 : Str} {n1 : Int} {r : Bool} (h : deval_stands fu op1 n1 = some r) : PCall Tryz.prog 157 [.str (sB op1), .int .i64 n1] (· = .bool r) := by
 rw [deval_stands] at h
 refine pB_ Tryz.func157 ?_
 refine aSR (rv rfl rfl (rn (aS (aSR (rv rfl rfl (rn (aB (aSR (rv rfl rfl (rt (sEq op1 [60]) (rv rfl rfl (rn (cS2 rfl h (fun h_1 => ?_) fun h_1 => ?_)))))))))))))
 ·clear h
  exact aSR (rg 3 rfl (rn (aT (si h_1 ▸ rF))))
 clear h
 refine aSR (rv rfl rfl (rt (sEq op1 [60, 61]) (rv rfl rfl (rn (cS2 rfl h_1 (fun h_2 => ?_) fun h_2 => ?_)))))
 ·clear h_1
  exact aSR (rg 3 rfl (rn (aT (si h_2 ▸ rF))))
 clear h_1
 refine aSR (rv rfl rfl (rt (sEq op1 [61]) (rv rfl rfl (rn (cS2 rfl h_2 (fun h_3 => ?_) fun h_3 => ?_)))))
 ·clear h_2
  exact aSR (rg 3 rfl (rn (aT (si h_3 ▸ rF))))
 clear h_2
 refine aSR (rv rfl rfl (rt (sEq op1 [33, 61]) (rv rfl rfl (rn (cS2 rfl h_3 (fun h_4 => ?_) fun h_4 => ?_)))))
 ·clear h_3
  exact aSR (rg 3 rfl (rn (aT (si h_4 ▸ rF))))
 clear h_3
 refine aSR (rv rfl rfl (rt (sEq op1 [62, 61]) (rv rfl rfl (rn (cS2 rfl h_4 (fun h_5 => ?_) fun h_5 => ?_)))))
 ·clear h_4
  exact aSR (rg 3 rfl (rn (aT (si h_5 ▸ rF))))
 clear h_4
 refine aSR (rv rfl rfl (rt (sEq op1 [62]) (rv rfl rfl (rn (cS2 rfl h_5 (fun h_6 => ?_) fun h_6 => ?_)))))
 ·clear h_5
  exact aSR (rg 3 rfl (rn (aT (si h_6 ▸ rF))))
 clear h_5
 exact aK (inBlock_normal (aSR (rv rfl rfl (rn (aT (si h_6 ▸ rF))))))
def deval_find_1 (fu : Nat) (a1 : tAttr) (c1 : Str) : Option Bool :=
  some (a1.Name == c1)
theorem deval_find_1_l {fu : Nat} {a1 : tAttr} {c1 : Str} {r : Bool} (h : deval_find_1 fu a1 c1 = some r) : PCall Tryz.prog 211 [.agg [.str (sB a1.Name), .bool a1.Text, .int .i64 a1.N, .str (sB a1.S)], .rd [.str (sB c1)]] (· = .bool r) := by
 rw [deval_find_1] at h
 refine pB_ Tryz.func211 ?_
 exact aSR (rb rfl rfl (rv rfl rfl (rn (aSR (rg 4 rfl (rt (sEq a1.Name c1) (rv rfl rfl (rn (aT (si h ▸ rF))))))))))
def deval_find (fu : Nat) (l1 : List tAttr) (name1 : Str) : Option (tAttr × Bool) :=
  (dslices_IndexFunc_Attr fu l1 (fun x0 => deval_find_1 fu x0 name1)).bind fun i1 => bif (decide (i1 < 0)) then some ((tAttr.mk [] false 0 []), false) else ((gi l1 i1).bind fun x1 => some (x1, true))
theorem deval_find_l {fu : Nat} {l1 : List tAttr} {name1 : Str} {r : tAttr × Bool} (h : deval_find fu l1 name1 = some r) : PCall Tryz.prog 154 [.sl (l1.map c_tAttr), .str (sB name1)] (· = .tup [.agg [.str (sB r.1.Name), .bool r.1.Text, .int .i64 r.1.N, .str (sB r.1.S)], .bool r.2]) := by
 rw [deval_find] at h
 refine pB_ Tryz.func154 ?_
 refine aSR (rb rfl rfl (ra rfl rfl rfl (rv rfl rfl (rn (aSR (rg 2 rfl (bx h fun i1 hx1 h_1 => rf rfl rfl (dslices_IndexFunc_Attr_l ⟨rfl, fun _ => rfl⟩ (fun hq => deval_find_1_l hq) hx1) rfl (rv rfl rfl (rn (aS (aSR (rg 2 rfl (rn (cS2 rfl h_1 (fun h_2 => ?_) fun h_2 => ?_))))))))))))))
 ·clear h h_1
  exact aSR (rv rfl rfl (rs rfl rfl rfl rfl rfl rfl rfl (rv rfl rfl (rn (aT (si h_2 ▸ rF))))))
 clear h h_1
 refine aK (aSR (rg 2 rfl (bx h_2 fun x1 hx2 h_3 => ri rfl rfl rfl rfl rfl rfl (gi0 hx2) (giM c_tAttr hx2) (wM (fun _ => by rfl) _) ?_)))
 exact rv rfl rfl (rs rfl rfl rfl rfl rfl rfl rfl (rv rfl rfl (rn (aT (si h_3 ▸ rF)))))
def deval_compare (fu : Nat) (a1 : tAttr) (v1 : tAttr) : Option Int :=
  bif a1.Text then ((dstrings_Compare fu a1.S v1.S).bind fun x1 => some x1) else ((dcmp_Compare_int64 fu a1.N v1.N).bind fun x2 => some x2)
theorem deval_compare_l {fu : Nat} {a1 : tAttr} {v1 : tAttr} {r : Int} (h : deval_compare fu a1 v1 = some r) : PCall Tryz.prog 156 [.agg [.str (sB a1.Name), .bool a1.Text, .int .i64 a1.N, .str (sB a1.S)], .agg [.str (sB v1.Name), .bool v1.Text, .int .i64 v1.N, .str (sB v1.S)]] (· = .int .i64 r) := by
 rw [deval_compare] at h
 refine pB_ Tryz.func156 ?_
 refine aSR (rb rfl rfl (rb rfl rfl (rv rfl rfl (rn (aS (aSR (rg 2 rfl (rn (cS2 rfl h (fun h_1 => ?_) fun h_1 => ?_)))))))))
 ·clear h
  exact aSR (rg 4 rfl (bx h_1 fun x1 hx1 h_2 => rc1 rfl rfl rfl (dstrings_Compare_l hx1) (rv rfl rfl (rn (aT (si h_2 ▸ rF))))))
 clear h
 exact aK (aSR (rg 4 rfl (bx h_1 fun x2 hx2 h_2 => rc1 rfl rfl rfl (dcmp_Compare_int64_l hx2) (rv rfl rfl (rn (aT (si h_2 ▸ rF)))))))
def deval_leaf_1 (fu : Nat) (v1 : tAttr) (c1 : tAttr) : Option Bool :=
  bif (c1.Text == v1.Text) then ((deval_compare fu c1 v1).bind fun x1 => some (x1 == 0)) else some false
theorem deval_leaf_1_l {fu : Nat} {v1 : tAttr} {c1 : tAttr} {r : Bool} (h : deval_leaf_1 fu v1 c1 = some r) : PCall Tryz.prog 155 [.agg [.str (sB v1.Name), .bool v1.Text, .int .i64 v1.N, .str (sB v1.S)], .rd [.str (sB c1.Name), .bool c1.Text, .int .i64 c1.N, .str (sB c1.S)]] (· = .bool r) := by
 rw [deval_leaf_1] at h
 refine pB_ Tryz.func155 ?_
 refine aSR (rb rfl rfl (rv rfl rfl (rn (aSR (rg 6 rfl (gT2 rfl rfl rfl rfl rfl h (fun h_1 => ?_) fun h_1 => ?_))))))
 ·clear h
  exact rg 2 rfl (gy rfl rfl rfl (bx h_1 fun x1 hx1 h_2 => rc1 rfl rfl rfl (deval_compare_l hx1) (rg 3 rfl (rn (aT (si h_2 ▸ rF))))))
 clear h
 exact rg 5 rfl (rn (aT (si h_1 ▸ rF)))
def deval_leaf (fu : Nat) (f1 : tFilter) (l2 : List tAttr) : Option Bool :=
  match f1 with | .mk kind1 name1 op1 vals1 l1 => (deval_find fu l2 name1).bind fun is1 => (bif (!is1.2) then some true else some ((vals1.length : Int) == 0) : Option Bool).bind fun (x1 : Bool) => (bif x1 then some false else ((gi vals1 0).bind fun x2 => bif (kind1 == 4) then (bif (is1.1.Text == x2.Text) then ((deval_compare fu is1.1 x2).bind fun x3 => (deval_stands fu op1 x3).bind fun x4 => some x4) else some false) else (bif (kind1 == 5) then (bif is1.1.Text then (bif x2.Text then ((dstrings_HasPrefix fu is1.1.S x2.S).bind fun x5 => some x5) else some false) else some false) else (bif (kind1 == 6) then ((dslices_ContainsFunc_Attr fu vals1 (fun x0 => deval_leaf_1 fu x0 is1.1)).bind fun x6 => some x6) else some false))))
theorem deval_leaf_l {fu : Nat} {f1 : tFilter} {l2 : List tAttr} {r : Bool} (h : deval_leaf fu f1 l2 = some r) : PCall Tryz.prog 104 [.agg (c_tFilter f1), .sl (l2.map c_tAttr)] (· = .bool r) := by
 obtain ⟨kind1, name1, op1, vals1, l1⟩ := f1
 rw [deval_leaf] at h
 refine pB_ Tryz.func104 ?_
 refine aSR (rb rfl rfl (rv rfl rfl (rn (aSR (rg 3 rfl (bx h fun is1 hx1 h_1 => rc1 rfl rfl rfl (deval_find_l hx1) (rg 3 rfl (ra rfl rfl rfl (rs rfl rfl rfl rfl rfl rfl rfl (rv rfl rfl (rn (aS (aS (bx h_1 fun o2 ho3 h_2 => awp_cut1 (fun x => x = o2) (fun (x1 : Bool) => ⟨[(2, .ptr 0 0), (5, .ptr 1 0), (23, .bool x1)], [(0, 0, .int .i64 kind1), (0, 1, .str (sB name1)), (0, 2, .str (sB op1)), (0, 3, .sl (vals1.map c_tAttr)), (0, 4, .sl (cs_tFilter l1)), (1, 0, .str (sB is1.1.Name)), (1, 1, .bool is1.1.Text), (1, 2, .int .i64 is1.1.N), (1, 3, .str (sB is1.1.S))], [], 2⟩) ?_ ?_))))))))))))))
 ·clear h h_1
  refine aR (rg 3 rfl (gF2 rfl rfl rfl rfl rfl ho3 (fun ho3_1 => ?_) fun ho3_1 => ?_))
  ·clear ho3
   exact rg 3 rfl (rt ((lM c_tAttr vals1)) (rg 2 rfl (rn (si ho3_1 ▸ cN [0,1]))))
  clear ho3
  exact rg 4 rfl (rn (si ho3_1 ▸ cN [0,1]))
 clear h h_1
 rintro x1 rfl
 refine ch (cS2 rfl h_2 (fun h_3 => ?_) fun h_3 => ?_)
 ·clear h_2
  exact aSR (rv rfl rfl (rn (aT (si h_3 ▸ rF))))
 clear h_2
 refine aK (aSR (rg 2 rfl (bx h_3 fun x2 hx4 h_4 => ri rfl rfl rfl rfl rfl rfl (gi0 hx4) (giM c_tAttr hx4) (wM (fun _ => by rfl) _) ?_)))
 refine rv rfl rfl (ra rfl rfl rfl (rs rfl rfl rfl rfl rfl rfl rfl (rn (aSR (rg 2 rfl (rn (aS (aSR (rg 2 rfl (rn (aB (aSR (rg 2 rfl (rn (cS2 rfl h_4 (fun h_5 => ?_) fun h_5 => ?_)))))))))))))))
 ·clear h_3 h_4
  refine aS (dP_ 13 Tryz.mix (dv rfl rfl (fun _ => rfl) (dv rfl rfl (fun _ => rfl) (dv rfl rfl (fun _ => rfl) (dv rfl rfl (fun _ => rfl) (dv rfl rfl (fun _ => rfl) (dv rfl rfl (fun _ => rfl) (dS2 rfl rfl h_5 (fun h_6 => ?_) fun h_6 => ?_))))))))
  ·clear h_5
   exact dv rfl rfl (fun _ => rfl) (dv rfl rfl (fun _ => rfl) (dv rfl rfl (fun _ => rfl) (dv rfl rfl (fun _ => rfl) (bx h_6 fun x3 hx5 h_7 => dc rfl rfl rfl rfl (fun _ => rfl) (fun _ => (deval_compare_l hx5)) (bx h_7 fun x4 hx6 h_8 => dc rfl rfl rfl rfl (fun _ => rfl) (fun _ => (deval_stands_l hx6)) (dv rfl rfl (fun _ => rfl) (dn (rv rfl rfl (rn (aT (si h_8 ▸ rF)))))))))))
  clear h_5
  exact dno rfl rfl (dno rfl rfl (dno rfl rfl (dno rfl rfl (dno rfl rfl (dno rfl rfl (dv rfl rfl (fun _ => rfl) (dn (rv rfl rfl (rn (aT (si h_6 ▸ rF)))))))))))
 clear h_3 h_4
 refine aSR (rg 2 rfl (rn (cS2 rfl h_5 (fun h_6 => ?_) fun h_6 => ?_)))
 ·clear h_5
  refine aSR (rg 3 rfl (gT2 rfl rfl rfl rfl rfl h_6 (fun h_7 => ?_) fun h_7 => ?_))
  ·clear h_6
   refine rg 4 rfl (gT2 rfl rfl rfl rfl rfl h_7 (fun h_8 => ?_) fun h_8 => ?_)
   ·clear h_7
    exact rg 4 rfl (gy rfl rfl rfl (bx h_8 fun x5 hx7 h_9 => rc1 rfl rfl rfl (dstrings_HasPrefix_l hx7) (rg 2 rfl (rn (aT (si h_9 ▸ rF))))))
   clear h_7
   exact rg 6 rfl (rn (aT (si h_8 ▸ rF)))
  clear h_6
  exact rg 10 rfl (rn (aT (si h_7 ▸ rF)))
 clear h_5
 refine aSR (rg 2 rfl (rn (cS2 rfl h_6 (fun h_7 => ?_) fun h_7 => ?_)))
 ·clear h_6
  exact aSR (rg 3 rfl (bx h_7 fun x6 hx8 h_8 => rf rfl rfl (dslices_ContainsFunc_Attr_l ⟨rfl, fun _ => rfl⟩ (fun hq => deval_leaf_1_l hq) hx8) rfl (rv rfl rfl (rn (aT (si h_8 ▸ rF))))))
 clear h_6
 exact aK (inBlock_normal (aSR (rv rfl rfl (rn (aT (si h_7 ▸ rF))))))
mutual
def deval_Holds : Nat → tFilter → (List tAttr) → Option Bool
  | 0, _, _ => none
  | fu + 1, f1, l2 => match f1 with | .mk kind1 name1 op1 vals1 l1 => bif (kind1 == 7) then some true else (bif (kind1 == 3) then ((bif (decide ((l1.length : Int) > 0)) then ((gi l1 0).bind fun x2 => match x2 with | .mk kind2 name2 op2 vals2 l3 => (deval_Holds_2 fu (tFilter.mk kind2 name2 op2 vals2 l3) l2).bind fun x3 => some x3) else some false : Option Bool).bind fun (x1 : Bool) => some x1) else (bif (kind1 == 1) then ((dslices_ContainsFunc_Filter fu l1 (fun x0 => deval_Holds_2 fu x0 l2)).bind fun x4 => some (!x4)) else (bif (kind1 == 2) then ((dslices_ContainsFunc_Filter fu l1 (fun x0 => deval_Holds_1 fu x0 l2)).bind fun x5 => some x5) else ((deval_leaf fu (tFilter.mk kind1 name1 op1 vals1 l1) l2).bind fun x6 => some x6))))
def deval_Holds_1 : Nat → tFilter → (List tAttr) → Option Bool
  | 0, _, _ => none
  | fu + 1, x1, c1 => match x1 with | .mk kind1 name1 op1 vals1 l1 => (deval_Holds fu (tFilter.mk kind1 name1 op1 vals1 l1) c1).bind fun x2 => some x2
def deval_Holds_2 : Nat → tFilter → (List tAttr) → Option Bool
  | 0, _, _ => none
  | fu + 1, x1, c1 => match x1 with | .mk kind1 name1 op1 vals1 l1 => (deval_Holds fu (tFilter.mk kind1 name1 op1 vals1 l1) c1).bind fun x2 => some (!x2)
end
abbrev I_deval_Holds (fu : Nat) : Prop := ∀ {f1 l2} {r : Bool}, deval_Holds fu f1 l2 = some r → PCall Tryz.prog 62 [.agg (c_tFilter f1), .sl (l2.map c_tAttr)] (· = .bool r)
abbrev I_deval_Holds_1 (fu : Nat) : Prop := ∀ {x1 c1} {r : Bool}, deval_Holds_1 fu x1 c1 = some r → PCall Tryz.prog 101 [.agg (c_tFilter x1), .rd [.sl (c1.map c_tAttr)]] (· = .bool r)
abbrev I_deval_Holds_2 (fu : Nat) : Prop := ∀ {x1 c1} {r : Bool}, deval_Holds_2 fu x1 c1 = some r → PCall Tryz.prog 102 [.agg (c_tFilter x1), .rd [.sl (c1.map c_tAttr)]] (· = .bool r)
theorem deval_Holds_s {fu : Nat} (ih_deval_Holds : I_deval_Holds fu) (ih_deval_Holds_1 : I_deval_Holds_1 fu) (ih_deval_Holds_2 : I_deval_Holds_2 fu) : I_deval_Holds (fu + 1) := by
 intro f1 l2 r h
 obtain ⟨kind1, name1, op1, vals1, l1⟩ := f1
 rw [deval_Holds] at h
 refine pB_ Tryz.func62 ?_
 refine aSR (rb rfl rfl (rb rfl rfl (rv rfl rfl (rn (aSR (rg 2 rfl (rn (aSR (rg 2 rfl (rn (aS (aSR (rg 2 rfl (rn (aB (aSR (rg 2 rfl (rn (cS2 rfl h (fun h_1 => ?_) fun h_1 => ?_)))))))))))))))))))
 ·clear h
  exact aSR (rv rfl rfl (rn (aT (si h_1 ▸ rF))))
 clear h
 refine aSR (rg 2 rfl (rn (cS2 rfl h_1 (fun h_2 => ?_) fun h_2 => ?_)))
 ·clear h_1
  refine aS (bx h_2 fun o1 ho2 h_3 => awp_cut1 (fun x => x = o1) (fun (x1 : Bool) => ⟨[(4, .bool x1)], [], [], 0⟩) ?_ ?_)
  ·clear h_2
   refine aR (rg 3 rfl (rt ((lM_tFilter l1)) (rg 2 rfl (gT2 rfl rfl rfl rfl rfl ho2 (fun ho2_1 => ?_) fun ho2_1 => ?_))))
   ·clear ho2
    refine rg 3 rfl (gy rfl rfl rfl (bx ho2_1 fun x2 hx3 ho2_2 => ri rfl rfl rfl rfl rfl rfl (gi0 hx3) (giM_tFilter hx3) (wM_tFilter _) ?_))
    obtain ⟨kind2, name2, op2, vals2, l3⟩ := x2
    exact rg 1 rfl (gy rfl rfl rfl (bx ho2_2 fun x3 hx4 ho2_3 => rf rfl rfl (ih_deval_Holds_2 hx4) rfl (rg 2 rfl (rn (si ho2_3 ▸ cN [])))))
   clear ho2
   exact rg 7 rfl (rn (si ho2_1 ▸ cN []))
  clear h_2
  rintro x1 rfl
  exact ch (aT (si h_3 ▸ rF))
 clear h_1
 refine aSR (rg 2 rfl (rn (cS2 rfl h_2 (fun h_3 => ?_) fun h_3 => ?_)))
 ·clear h_2
  exact aSR (rg 3 rfl (bx h_3 fun x4 hx5 h_4 => rf rfl rfl (dslices_ContainsFunc_Filter_l ⟨rfl, fun _ => rfl⟩ (fun hq => ih_deval_Holds_2 hq) hx5) rfl (rg 2 rfl (rn (aT (si h_4 ▸ rF))))))
 clear h_2
 refine aSR (rg 2 rfl (rn (cS2 rfl h_3 (fun h_4 => ?_) fun h_4 => ?_)))
 ·clear h_3
  exact aSR (rg 3 rfl (bx h_4 fun x5 hx6 h_5 => rf rfl rfl (dslices_ContainsFunc_Filter_l ⟨rfl, fun _ => rfl⟩ (fun hq => ih_deval_Holds_1 hq) hx6) rfl (rv rfl rfl (rn (aT (si h_5 ▸ rF))))))
 clear h_3
 exact aK (inBlock_normal (aSR (rg 2 rfl (bx h_4 fun x6 hx7 h_5 => rc1 rfl rfl rfl (deval_leaf_l hx7) (rv rfl rfl (rn (aT (si h_5 ▸ rF))))))))
theorem deval_Holds_1_s {fu : Nat} (ih_deval_Holds : I_deval_Holds fu) (ih_deval_Holds_1 : I_deval_Holds_1 fu) (ih_deval_Holds_2 : I_deval_Holds_2 fu) : I_deval_Holds_1 (fu + 1) := by
 intro x1 c1 r h
 obtain ⟨kind1, name1, op1, vals1, l1⟩ := x1
 rw [deval_Holds_1] at h
 refine pB_ Tryz.func101 ?_
 exact aSR (rb rfl rfl (rv rfl rfl (rn (aSR (rg 2 rfl (bx h fun x2 hx1 h_1 => rc1 rfl rfl rfl (ih_deval_Holds hx1) (rv rfl rfl (rn (aT (si h_1 ▸ rF))))))))))
theorem deval_Holds_2_s {fu : Nat} (ih_deval_Holds : I_deval_Holds fu) (ih_deval_Holds_1 : I_deval_Holds_1 fu) (ih_deval_Holds_2 : I_deval_Holds_2 fu) : I_deval_Holds_2 (fu + 1) := by
 intro x1 c1 r h
 obtain ⟨kind1, name1, op1, vals1, l1⟩ := x1
 rw [deval_Holds_2] at h
 refine pB_ Tryz.func102 ?_
 exact aSR (rb rfl rfl (rv rfl rfl (rn (aSR (rg 2 rfl (bx h fun x2 hx1 h_1 => rc1 rfl rfl rfl (ih_deval_Holds hx1) (rg 2 rfl (rn (aT (si h_1 ▸ rF))))))))))
end
theorem rec_deval_Holds : ∀ fu : Nat, I_deval_Holds fu ∧ I_deval_Holds_1 fu ∧ I_deval_Holds_2 fu
  | 0 => ⟨fun h => by simp [deval_Holds] at h, fun h => by simp [deval_Holds_1] at h, fun h => by simp [deval_Holds_2] at h⟩
  | fu + 1 => by
    obtain ⟨i0, i1, i2⟩ := rec_deval_Holds fu
    exact ⟨deval_Holds_s i0 i1 i2, deval_Holds_1_s i0 i1 i2, deval_Holds_2_s i0 i1 i2⟩
theorem deval_Holds_l {fu : Nat} : I_deval_Holds fu := (rec_deval_Holds fu).1
end Go.Proofs.YtbkomicjhfldmaaGreatDoor
namespace Go.Proofs.YtbkomicjhfldmaaGreatDoor
open Go.Pv
set_option maxRecDepth 100000
set_option maxHeartbeats 4000000
set_option linter.unusedSimpArgs false
set_option linter.unusedVariables false
set_option linter.unusedSectionVars false
def far (n : Int) : Bool := decide (n < -1073741824) || decide (n > 1073741824)
def mayP (x y : Int) : Bool := !far x && !far y
def mayR (a b c d : Int) : Bool := mayP a b && mayP c d && decide (a ≤ c) && decide (b ≤ d)
def mn (x y : Int) : Int := if y < x then y else x
def mx (x y : Int) : Int := if y > x then y else x
def inR (a b c d x y : Int) : Bool := decide (a ≤ x) && decide (x ≤ c) && decide (b ≤ y) && decide (y ≤ d)
def holdsR (a b c d a' b' c' d' : Int) : Bool := decide (a ≤ a') && decide (c' ≤ c) && decide (b ≤ b') && decide (d' ≤ d)
def mt (p : Bool) (x : Int) : Int := if p then x else 0
def BdR (a b c d : Int) : Prop := Bd a ∧ Bd b ∧ Bd c ∧ Bd d
theorem mayP_iff {x y : Int} : mayP x y = true ↔ Bd x ∧ Bd y := by
  simp only [mayP, far, Bd, Bool.and_eq_true, Bool.not_eq_true', Bool.or_eq_false_iff, decide_eq_false_iff_not]; omega
theorem mayR_iff {a b c d : Int} : mayR a b c d = true ↔ BdR a b c d ∧ a ≤ c ∧ b ≤ d := by
  simp only [mayR, Bool.and_eq_true, mayP_iff, decide_eq_true_eq, BdR, and_assoc]
theorem mn_eq (x y : Int) : mn x y = min x y := by unfold mn; omega
theorem mx_eq (x y : Int) : mx x y = max x y := by unfold mx; omega
section
attribute [local irreducible] awp aops DP PCall ACall Decidable.decide
theorem far_c {n : Int} : PCall Tryz.prog 150 [.int .i64 n] (· = .bool (far n)) := by
  refine pB_ Tryz.func150 ?_
  refine aSR (rv rfl rfl (rn (aSR (rg 3 rfl ?_))))
  (iterate 2 all_goals (first | refine gy_ (rv rfl rfl ?_) | refine gn_ ?_ | refine gu_ ?_ | refine gs rfl rfl rfl rfl rfl (fun hg => rv rfl rfl ?_) fun hg => ?_)) <;> (
  refine rg 2 rfl (rn (aT ?_))
  repeat (first | refine then_ret ?_ | refine inBlock_ret ?_)
  refine rr rfl rfl ?_
  first | rfl | (simp [*]; done) | (simp [far]; done) | (simp [far, *]; done) | (simp_all [far]; done))
end
section
attribute [local irreducible] awp aops DP PCall ACall Decidable.decide
theorem mayP_c {x y : Int} : PCall Tryz.prog 99 [.agg [.int .i64 x, .int .i64 y]] (· = .bool (mayP x y)) := by
  refine pB_ Tryz.func99 ?_
  refine aSR (rb rfl rfl (rv rfl rfl (rn (aSR (rg 2 rfl (rc1 rfl rfl rfl (far_c) (rg 2 rfl ?_)))))))
  (iterate 2 all_goals (first | refine gy_ (rv rfl rfl ?_) | refine gn_ ?_ | refine gu_ ?_ | refine gs rfl rfl rfl rfl rfl (fun hg => rv rfl rfl ?_) fun hg => ?_)) <;> (
  (first | refine gy_ (rc1 rfl rfl rfl (far_c) (?_)) | refine gn_ ?_ | refine gu_ ?_ | refine gs rfl rfl rfl rfl rfl (fun hg => rc1 rfl rfl rfl (far_c) (?_)) fun hg => ?_) <;> (
  ((first | refine gy_ (rv rfl rfl ?_) | refine gn_ ?_ | refine gu_ ?_ | refine gs rfl rfl rfl rfl rfl (fun hg => rv rfl rfl ?_) fun hg => ?_)) <;> (
  refine rg 2 rfl (rn (aT ?_))
  repeat (first | refine then_ret ?_ | refine inBlock_ret ?_)
  refine rr rfl rfl ?_
  first | rfl | (simp [*]; done) | (simp [mayP]; done) | (simp [mayP, *]; done) | (simp_all [mayP]; done))))
end
section
attribute [local irreducible] awp aops DP PCall ACall Decidable.decide
theorem mayR_c {a b c d : Int} : PCall Tryz.prog 75 [.agg [.int .i64 a, .int .i64 b, .int .i64 c, .int .i64 d]] (· = .bool (mayR a b c d)) := by
  refine pB_ Tryz.func75 ?_
  refine aSR (rb rfl rfl (rv rfl rfl (rn (aSR (rg 5 rfl (rc1 rfl rfl rfl (mayP_c) (rv rfl rfl ?_)))))))
  (iterate 5 all_goals (first | refine gy_ (rv rfl rfl ?_) | refine gn_ ?_ | refine gu_ ?_ | refine gs rfl rfl rfl rfl rfl (fun hg => rv rfl rfl ?_) fun hg => ?_)) <;> (
  (first | refine gy_ (rc1 rfl rfl rfl (mayP_c) (?_)) | refine gn_ ?_ | refine gu_ ?_ | refine gs rfl rfl rfl rfl rfl (fun hg => rc1 rfl rfl rfl (mayP_c) (?_)) fun hg => ?_) <;> (
  refine rg 2 rfl ?_
  (iterate 5 all_goals (first | refine gy_ (rv rfl rfl ?_) | refine gn_ ?_ | refine gu_ ?_ | refine gs rfl rfl rfl rfl rfl (fun hg => rv rfl rfl ?_) fun hg => ?_)) <;> (
  refine rg 2 rfl ?_
  (iterate 5 all_goals (first | refine gy_ (rv rfl rfl ?_) | refine gn_ ?_ | refine gu_ ?_ | refine gs rfl rfl rfl rfl rfl (fun hg => rv rfl rfl ?_) fun hg => ?_)) <;> (
  refine rg 2 rfl (rn (aT ?_))
  repeat (first | refine then_ret ?_ | refine inBlock_ret ?_)
  refine rr rfl rfl ?_
  first | rfl | (simp [*]; done) | (simp [mayR]; done) | (simp [mayR, *]; done) | (simp_all [mayR]; done)))))
end
section
attribute [local irreducible] awp aops DP PCall ACall Decidable.decide
theorem inR_c {a b c d x y : Int} : PCall Tryz.prog 89 [.agg [.int .i64 a, .int .i64 b, .int .i64 c, .int .i64 d], .agg [.int .i64 x, .int .i64 y]] (· = .bool (inR a b c d x y)) := by
  refine pB_ Tryz.func89 ?_
  refine aSR (rb rfl rfl (rb rfl rfl (rv rfl rfl (rn (aSR (rg 6 rfl ?_))))))
  (iterate 5 all_goals (first | refine gy_ (rv rfl rfl ?_) | refine gn_ ?_ | refine gu_ ?_ | refine gs rfl rfl rfl rfl rfl (fun hg => rv rfl rfl ?_) fun hg => ?_)) <;> (
  refine rg 2 rfl ?_
  (iterate 5 all_goals (first | refine gy_ (rv rfl rfl ?_) | refine gn_ ?_ | refine gu_ ?_ | refine gs rfl rfl rfl rfl rfl (fun hg => rv rfl rfl ?_) fun hg => ?_)) <;> (
  refine rg 2 rfl ?_
  (iterate 5 all_goals (first | refine gy_ (rv rfl rfl ?_) | refine gn_ ?_ | refine gu_ ?_ | refine gs rfl rfl rfl rfl rfl (fun hg => rv rfl rfl ?_) fun hg => ?_)) <;> (
  refine rg 2 rfl (rn (aT ?_))
  repeat (first | refine then_ret ?_ | refine inBlock_ret ?_)
  refine rr rfl rfl ?_
  first | rfl | (simp [*]; done) | (simp [inR]; done) | (simp [inR, *]; done) | (simp_all [inR]; done))))
end
section
attribute [local irreducible] awp aops DP PCall ACall Decidable.decide
theorem holdsR_c {a b c d a' b' c' d' : Int} : PCall Tryz.prog 136 [.agg [.int .i64 a, .int .i64 b, .int .i64 c, .int .i64 d], .agg [.int .i64 a', .int .i64 b', .int .i64 c', .int .i64 d']] (· = .bool (holdsR a b c d a' b' c' d')) := by
  refine pB_ Tryz.func136 ?_
  refine aSR (rb rfl rfl (rb rfl rfl (rv rfl rfl (rn (aSR (rg 6 rfl ?_))))))
  (iterate 5 all_goals (first | refine gy_ (rv rfl rfl ?_) | refine gn_ ?_ | refine gu_ ?_ | refine gs rfl rfl rfl rfl rfl (fun hg => rv rfl rfl ?_) fun hg => ?_)) <;> (
  refine rg 2 rfl ?_
  (iterate 5 all_goals (first | refine gy_ (rv rfl rfl ?_) | refine gn_ ?_ | refine gu_ ?_ | refine gs rfl rfl rfl rfl rfl (fun hg => rv rfl rfl ?_) fun hg => ?_)) <;> (
  refine rg 2 rfl ?_
  (iterate 5 all_goals (first | refine gy_ (rv rfl rfl ?_) | refine gn_ ?_ | refine gu_ ?_ | refine gs rfl rfl rfl rfl rfl (fun hg => rv rfl rfl ?_) fun hg => ?_)) <;> (
  refine rg 2 rfl (rn (aT ?_))
  repeat (first | refine then_ret ?_ | refine inBlock_ret ?_)
  refine rr rfl rfl ?_
  first | rfl | (simp [*]; done) | (simp [holdsR]; done) | (simp [holdsR, *]; done) | (simp_all [holdsR]; done))))
end
section
attribute [local irreducible] awp aops DP PCall ACall Decidable.decide
theorem joinR_c {a b c d a' b' c' d' : Int} : PCall Tryz.prog 131 [.agg [.int .i64 a, .int .i64 b, .int .i64 c, .int .i64 d], .agg [.int .i64 a', .int .i64 b', .int .i64 c', .int .i64 d']] (· = .agg [.int .i64 (mn a a'), .int .i64 (mn b b'), .int .i64 (mx c c'), .int .i64 (mx d d')]) := by
  refine pB_ Tryz.func131 ?_
  refine aSR (rb rfl rfl (rb rfl rfl (ra rfl rfl rfl (rn (aSR (rg 21 rfl (rs rfl rfl rfl rfl rfl rfl rfl (rn (aT ?_)))))))))
  repeat (first | refine then_ret ?_ | refine inBlock_ret ?_)
  refine rr rfl rfl ?_
  first | rfl | (simp [*]; done) | (simp []; done) | (simp [*]; done) | (simp_all []; done)
end
def mor (x y : Int) : Int := W (0 - mn (W (0 - y)) (W (0 - x)))
theorem mor_eq {x y : Int} (hx : Bd x) (hy : Bd y) : mor x y = mx x y := by
  unfold mor
  rw [W_neg hy, W_neg hx, W_neg (by unfold mn Bd at *; split <;> omega)]
  unfold mn mx
  split <;> split <;> omega
section
attribute [local irreducible] awp aops DP PCall ACall Decidable.decide
theorem rfar_c {n : Int} : PCall Tryz.prog 114 [.int .i64 n] (· = .bool (far n)) := by
  refine pB_ Tryz.func114 ?_
  refine aSR (rv rfl rfl (rn (aSR (rg 3 rfl ?_))))
  (iterate 2 all_goals (first | refine gy_ (rv rfl rfl ?_) | refine gn_ ?_ | refine gu_ ?_ | refine gs rfl rfl rfl rfl rfl (fun hg => rv rfl rfl ?_) fun hg => ?_)) <;> (
  refine rg 2 rfl (rn (aT ?_))
  repeat (first | refine then_ret ?_ | refine inBlock_ret ?_)
  refine rr rfl rfl ?_
  first | rfl | (simp [*]; done) | (simp [far]; done) | (simp [far, *]; done) | (simp_all [far]; done))
end
section
attribute [local irreducible] awp aops DP PCall ACall Decidable.decide
theorem rmayP_c {x y : Int} : PCall Tryz.prog 72 [.agg [.int .i64 x, .int .i64 y]] (· = .bool (mayP x y)) := by
  refine pB_ Tryz.func72 ?_
  refine aSR (rb rfl rfl (rv rfl rfl (rn (aSR (rg 2 rfl (rc1 rfl rfl rfl (rfar_c) (rv rfl rfl (rn (aSR (rg 2 rfl (rc1 rfl rfl rfl (rfar_c) (rv rfl rfl (rn (aSR (rg 3 rfl ?_)))))))))))))))
  (iterate 2 all_goals (first | refine gy_ (rv rfl rfl ?_) | refine gn_ ?_ | refine gu_ ?_ | refine gs rfl rfl rfl rfl rfl (fun hg => rv rfl rfl ?_) fun hg => ?_)) <;> (
  refine rg 2 rfl (rn (aT ?_))
  repeat (first | refine then_ret ?_ | refine inBlock_ret ?_)
  refine rr rfl rfl ?_
  first | rfl | (simp [*]; done) | (simp [mayP]; done) | (simp [mayP, *]; done) | (simp_all [mayP]; done))
end
section
attribute [local irreducible] awp aops DP PCall ACall Decidable.decide
theorem rless_c {x y : Int} : PCall Tryz.prog 137 [.int .i64 x, .int .i64 y] (· = .int .i64 (mn y x)) := by
  refine pB_ Tryz.func137 ?_
  refine aSR (rv rfl rfl (rn (aS (aSR (rg 3 rfl (rn (then_normal ?_)))))))
  refine cs_ rfl (fun hc => ?_) (fun hc => ?_)
  · first
    | (cases hc; done)
    | (
      refine aSR (rg 2 rfl (rn (aT ?_)))
      repeat (first | refine then_ret ?_ | refine inBlock_ret ?_)
      refine rr rfl rfl ?_
      (simp only [decide_eq_true_eq, decide_eq_false_iff_not, AV.int.injEq, true_and] at *; unfold mn; split <;> omega))
  · first
    | (cases hc; done)
    | (
      refine aK (aSR (rg 2 rfl (rn (aT ?_))))
      repeat (first | refine then_ret ?_ | refine inBlock_ret ?_)
      refine rr rfl rfl ?_
      (simp only [decide_eq_true_eq, decide_eq_false_iff_not, AV.int.injEq, true_and] at *; unfold mn; split <;> omega))
end
end Go.Proofs.YtbkomicjhfldmaaGreatDoor
namespace Go.Proofs.YtbkomicjhfldmaaGreatDoor
open Go.Pv
set_option maxRecDepth 100000
set_option maxHeartbeats 4000000
set_option linter.unusedSimpArgs false
set_option linter.unusedVariables false
set_option linter.unusedSectionVars false
def sg (x y : Int) : Int := if x < y then -1 else if y < x then 1 else 0
def turnV (a b c d x y : Int) : Int := sg (W (W (c - a) * W (y - b))) (W (W (d - b) * W (x - a)))
def btw (x y n : Int) : Bool := decide (mn x y ≤ n) && decide (n ≤ mx x y)
def onV (a b c d x y : Int) : Bool := decide (turnV a b c d x y = 0) && btw a c x && btw b d y
def apartV (a b c d x y x' y' : Int) : Bool := decide (W (turnV a b c d x y * turnV a b c d x' y') < 0) && decide (W (turnV x y x' y' a b * turnV x y x' y' c d) < 0)
def crossV (a b c d x y x' y' : Int) : Bool := onV a b c d x y || onV a b c d x' y' || onV x y x' y' a b || onV x y x' y' c d || apartV a b c d x y x' y'
def addB (a b c d : Int) : Bool := mayP a b && mayP c d && mayP (W (a + c)) (W (b + d))
def addT (p : Bool) (x y : Int) : AV := match p with
  | true => .tup [.agg [.int .i64 x, .int .i64 y], .nilI]
  | false => .tup [.agg [.int .i64 0, .int .i64 0], .iface 55 (.int .i64 11)]
section
attribute [local irreducible] awp aops DP PCall ACall Decidable.decide
theorem isNaN_c {x : Int} : PCall Tryz.prog 239 [.int .i64 x] (· = .bool (false)) := by
  refine pB_ Tryz.func239 ?_
  refine aSR (rv rfl rfl (rn (aSR (rg 4 rfl (rn (aT ?_))))))
  repeat (first | refine then_ret ?_ | refine inBlock_ret ?_)
  refine rr rfl rfl ?_
  first | rfl | (simp [*]; done) | (simp []; done) | (simp [*]; done) | (simp_all []; done)
end
section
attribute [local irreducible] awp aops DP PCall ACall Decidable.decide
theorem cmp_c {x y : Int} : PCall Tryz.prog 209 [.int .i64 x, .int .i64 y] (· = .int .i64 (sg x y)) := by
  refine pB_ Tryz.func209 ?_
  refine aSR (rv rfl rfl (rn (aSR (rv rfl rfl (rc1 rfl rfl rfl (isNaN_c) (rv rfl rfl (rn (aSR (rv rfl rfl (rc1 rfl rfl rfl (isNaN_c) (rv rfl rfl (rn (aS (aSR (rv rfl rfl (rn (then_normal ?_)))))))))))))))))
  refine cs_ rfl (fun hc => ?_) (fun hc => ?_)
  · first
    | (cases hc; done)
    | (
      refine aS (aSR (rv rfl rfl (rn (then_normal ?_))))
      refine cs_ rfl (fun hc => ?_) (fun hc => ?_)
      · first
        | (cases hc; done)
        | (
          refine aSR (rv rfl rfl (rn (aT ?_)))
          repeat (first | refine then_ret ?_ | refine inBlock_ret ?_)
          refine rr rfl rfl ?_
          (simp only [decide_eq_true_eq, decide_eq_false_iff_not, AV.int.injEq, true_and] at *; simp [sg, *]))
      · first
        | (cases hc; done)
        | (
          refine aK (aSR (rv rfl rfl (rn (aT ?_))))
          repeat (first | refine then_ret ?_ | refine inBlock_ret ?_)
          refine rr rfl rfl ?_
          (simp only [decide_eq_true_eq, decide_eq_false_iff_not, AV.int.injEq, true_and] at *; simp [sg, *])))
  · first
    | (cases hc; done)
    | (
      refine aK (aS (aSR (rv rfl rfl (rn (then_normal ?_)))))
      refine cs_ rfl (fun hc => ?_) (fun hc => ?_)
      · first
        | (cases hc; done)
        | (
          refine aSR (rv rfl rfl (rn (aT ?_)))
          repeat (first | refine then_ret ?_ | refine inBlock_ret ?_)
          refine rr rfl rfl ?_
          (simp only [decide_eq_true_eq, decide_eq_false_iff_not, AV.int.injEq, true_and] at *; simp [sg, *]))
      · first
        | (cases hc; done)
        | (
          refine aK (aS (aSR (rg 3 rfl (rn (then_normal ?_)))))
          refine cs_ rfl (fun hc => ?_) (fun hc => ?_)
          · first
            | (cases hc; done)
            | (
              refine aSR (rv rfl rfl (rn (aT ?_)))
              repeat (first | refine then_ret ?_ | refine inBlock_ret ?_)
              refine rr rfl rfl ?_
              (simp only [decide_eq_true_eq, decide_eq_false_iff_not, AV.int.injEq, true_and] at *; simp [sg, *]))
          · first
            | (cases hc; done)
            | (
              refine aK (aS (aSR (rg 3 rfl (rn (then_normal ?_)))))
              refine cs_ rfl (fun hc => ?_) (fun hc => ?_)
              · first
                | (cases hc; done)
                | (
                  refine aSR (rv rfl rfl (rn (aT ?_)))
                  repeat (first | refine then_ret ?_ | refine inBlock_ret ?_)
                  refine rr rfl rfl ?_
                  (simp only [decide_eq_true_eq, decide_eq_false_iff_not, AV.int.injEq, true_and] at *; simp [sg, *]))
              · first
                | (cases hc; done)
                | (
                  refine aK (aSR (rv rfl rfl (rn (aT ?_))))
                  repeat (first | refine then_ret ?_ | refine inBlock_ret ?_)
                  refine rr rfl rfl ?_
                  (simp only [decide_eq_true_eq, decide_eq_false_iff_not, AV.int.injEq, true_and] at *; simp [sg, *])))))
end
section
attribute [local irreducible] awp aops DP PCall ACall Decidable.decide
theorem turn_c {a b c d x y : Int} : PCall Tryz.prog 152 [.agg [.int .i64 a, .int .i64 b], .agg [.int .i64 c, .int .i64 d], .agg [.int .i64 x, .int .i64 y]] (· = .int .i64 (turnV a b c d x y)) := by
  refine pB_ Tryz.func152 ?_
  refine aSR (rb rfl rfl (rb rfl rfl (rb rfl rfl (rv rfl rfl (rn (aSR (rg 22 rfl (rc1 rfl rfl rfl (cmp_c) (rv rfl rfl (rn (aT ?_)))))))))))
  repeat (first | refine then_ret ?_ | refine inBlock_ret ?_)
  refine rr rfl rfl ?_
  first | rfl | (simp [*]; done) | (simp []; done) | (simp [*]; done) | (simp_all []; done)
end
section
attribute [local irreducible] awp aops DP PCall ACall Decidable.decide
theorem btw_c {x y n : Int} : PCall Tryz.prog 208 [.int .i64 x, .int .i64 y, .int .i64 n] (· = .bool (btw x y n)) := by
  refine pB_ Tryz.func208 ?_
  refine aSR (rv rfl rfl (rn (aSR (rg 6 rfl ?_))))
  (iterate 5 all_goals (first | refine gy_ (rv rfl rfl ?_) | refine gn_ ?_ | refine gu_ ?_ | refine gs rfl rfl rfl rfl rfl (fun hg => rv rfl rfl ?_) fun hg => ?_)) <;> (
  refine rg 2 rfl (rn (aT ?_))
  repeat (first | refine then_ret ?_ | refine inBlock_ret ?_)
  refine rr rfl rfl ?_
  (unfold btw mn mx; rw [hg]; rfl))
end
section
attribute [local irreducible] awp aops DP PCall ACall Decidable.decide
theorem on_c {a b c d x y : Int} : PCall Tryz.prog 151 [.agg [.int .i64 a, .int .i64 b], .agg [.int .i64 c, .int .i64 d], .agg [.int .i64 x, .int .i64 y]] (· = .bool (onV a b c d x y)) := by
  refine pB_ Tryz.func151 ?_
  refine aSR (rb rfl rfl (rb rfl rfl (rb rfl rfl (rv rfl rfl (rn (aSR (rg 3 rfl (rc1 rfl rfl rfl (turn_c) (rg 2 rfl ?_)))))))))
  (iterate 6 all_goals (first | refine gy_ (rv rfl rfl ?_) | refine gn_ ?_ | refine gu_ ?_ | refine gs rfl rfl rfl rfl rfl (fun hg => rv rfl rfl ?_) fun hg => ?_)) <;> (
  (first | refine gy_ (rc1 rfl rfl rfl (btw_c) (?_)) | refine gn_ ?_ | refine gu_ ?_ | refine gs rfl rfl rfl rfl rfl (fun hg => rc1 rfl rfl rfl (btw_c) (?_)) fun hg => ?_) <;> (
  refine rg 2 rfl ?_
  (iterate 6 all_goals (first | refine gy_ (rv rfl rfl ?_) | refine gn_ ?_ | refine gu_ ?_ | refine gs rfl rfl rfl rfl rfl (fun hg => rv rfl rfl ?_) fun hg => ?_)) <;> (
  (first | refine gy_ (rc1 rfl rfl rfl (btw_c) (?_)) | refine gn_ ?_ | refine gu_ ?_ | refine gs rfl rfl rfl rfl rfl (fun hg => rc1 rfl rfl rfl (btw_c) (?_)) fun hg => ?_) <;> (
  refine rg 2 rfl (rn (aT ?_))
  repeat (first | refine then_ret ?_ | refine inBlock_ret ?_)
  refine rr rfl rfl ?_
  first | rfl | (simp [*]; done) | (simp [onV]; done) | (simp [onV, *]; done) | (simp_all [onV]; done)))))
end
section
attribute [local irreducible] awp aops DP PCall ACall Decidable.decide
theorem cross_c {a b c d x y x' y' : Int} : PCall Tryz.prog 122 [.agg [.int .i64 a, .int .i64 b], .agg [.int .i64 c, .int .i64 d], .agg [.int .i64 x, .int .i64 y], .agg [.int .i64 x', .int .i64 y']] (· = .bool (crossV a b c d x y x' y')) := by
  refine pB_ Tryz.func122 ?_
  refine aSR (rb rfl rfl (rb rfl rfl (rb rfl rfl (rb rfl rfl (rv rfl rfl (rn (aS (aSR (rg 3 rfl (rc1 rfl rfl rfl (on_c) (rv rfl rfl ?_)))))))))))
  (iterate 3 all_goals (first | refine gy_ (rv rfl rfl ?_) | refine gn_ ?_ | refine gu_ ?_ | refine gs rfl rfl rfl rfl rfl (fun hg => rv rfl rfl ?_) fun hg => ?_)) <;> (
  (first | refine gy_ (rc1 rfl rfl rfl (on_c) (?_)) | refine gn_ ?_ | refine gu_ ?_ | refine gs rfl rfl rfl rfl rfl (fun hg => rc1 rfl rfl rfl (on_c) (?_)) fun hg => ?_) <;> (
  refine rg 2 rfl ?_
  (iterate 3 all_goals (first | refine gy_ (rv rfl rfl ?_) | refine gn_ ?_ | refine gu_ ?_ | refine gs rfl rfl rfl rfl rfl (fun hg => rv rfl rfl ?_) fun hg => ?_)) <;> (
  (first | refine gy_ (rc1 rfl rfl rfl (on_c) (?_)) | refine gn_ ?_ | refine gu_ ?_ | refine gs rfl rfl rfl rfl rfl (fun hg => rc1 rfl rfl rfl (on_c) (?_)) fun hg => ?_) <;> (
  refine rg 2 rfl ?_
  (iterate 3 all_goals (first | refine gy_ (rv rfl rfl ?_) | refine gn_ ?_ | refine gu_ ?_ | refine gs rfl rfl rfl rfl rfl (fun hg => rv rfl rfl ?_) fun hg => ?_)) <;> (
  (first | refine gy_ (rc1 rfl rfl rfl (on_c) (?_)) | refine gn_ ?_ | refine gu_ ?_ | refine gs rfl rfl rfl rfl rfl (fun hg => rc1 rfl rfl rfl (on_c) (?_)) fun hg => ?_) <;> (
  refine rv rfl rfl (rn (then_normal ?_))
  refine cs_ rfl (fun hc => ?_) (fun hc => ?_)
  · first
    | (cases hc; done)
    | (
      refine aSR (rv rfl rfl (rn (aT ?_)))
      repeat (first | refine then_ret ?_ | refine inBlock_ret ?_)
      refine rr rfl rfl ?_
      first | rfl | (simp [*]; done) | (simp [crossV, apartV]; done) | (simp [crossV, apartV, *]; done) | (simp_all [crossV, apartV]; done))
  · first
    | (cases hc; done)
    | (
      refine aK (aS (dP_ 22 Tryz.mix (dv rfl rfl (fun _ => rfl) (dv rfl rfl (fun _ => rfl) (dv rfl rfl (fun _ => rfl) (dc rfl rfl rfl rfl (fun _ => rfl) (fun _ => (turn_c)) (dv rfl rfl (fun _ => rfl) (dv rfl rfl (fun _ => rfl) (dv rfl rfl (fun _ => rfl) (dc rfl rfl rfl rfl (fun _ => rfl) (fun _ => (turn_c)) (dv rfl rfl (fun _ => rfl) (dv rfl rfl (fun _ => rfl) (dv rfl rfl (fun _ => rfl) ?_)))))))))))))
      (first | refine dv rfl rfl (fun _ => rfl) ?_ | refine dno rfl rfl ?_ | (refine ds rfl rfl (fun hg => ?_) (fun hg => ?_) <;> first | refine dv rfl rfl (fun _ => rfl) ?_ | refine dno rfl rfl ?_)) <;> (
      (first | refine dv rfl rfl (fun _ => rfl) ?_ | refine dno rfl rfl ?_ | (refine ds rfl rfl (fun hg => ?_) (fun hg => ?_) <;> first | refine dv rfl rfl (fun _ => rfl) ?_ | refine dno rfl rfl ?_)) <;> (
      (first | refine dv rfl rfl (fun _ => rfl) ?_ | refine dno rfl rfl ?_ | (refine ds rfl rfl (fun hg => ?_) (fun hg => ?_) <;> first | refine dv rfl rfl (fun _ => rfl) ?_ | refine dno rfl rfl ?_)) <;> (
      (first | refine dc rfl rfl rfl rfl (fun _ => rfl) (fun _ => (turn_c)) ?_ | refine dno rfl rfl ?_ | (refine ds rfl rfl (fun hg => ?_) (fun hg => ?_) <;> first | refine dc rfl rfl rfl rfl (fun _ => rfl) (fun _ => (turn_c)) ?_ | refine dno rfl rfl ?_)) <;> (
      (first | refine dv rfl rfl (fun _ => rfl) ?_ | refine dno rfl rfl ?_ | (refine ds rfl rfl (fun hg => ?_) (fun hg => ?_) <;> first | refine dv rfl rfl (fun _ => rfl) ?_ | refine dno rfl rfl ?_)) <;> (
      (first | refine dv rfl rfl (fun _ => rfl) ?_ | refine dno rfl rfl ?_ | (refine ds rfl rfl (fun hg => ?_) (fun hg => ?_) <;> first | refine dv rfl rfl (fun _ => rfl) ?_ | refine dno rfl rfl ?_)) <;> (
      (first | refine dv rfl rfl (fun _ => rfl) ?_ | refine dno rfl rfl ?_ | (refine ds rfl rfl (fun hg => ?_) (fun hg => ?_) <;> first | refine dv rfl rfl (fun _ => rfl) ?_ | refine dno rfl rfl ?_)) <;> (
      (first | refine dc rfl rfl rfl rfl (fun _ => rfl) (fun _ => (turn_c)) ?_ | refine dno rfl rfl ?_ | (refine ds rfl rfl (fun hg => ?_) (fun hg => ?_) <;> first | refine dc rfl rfl rfl rfl (fun _ => rfl) (fun _ => (turn_c)) ?_ | refine dno rfl rfl ?_)) <;> (
      (first | refine dv rfl rfl (fun _ => rfl) ?_ | refine dno rfl rfl ?_ | (refine ds rfl rfl (fun hg => ?_) (fun hg => ?_) <;> first | refine dv rfl rfl (fun _ => rfl) ?_ | refine dno rfl rfl ?_)) <;> (
      (first | refine dv rfl rfl (fun _ => rfl) ?_ | refine dno rfl rfl ?_ | (refine ds rfl rfl (fun hg => ?_) (fun hg => ?_) <;> first | refine dv rfl rfl (fun _ => rfl) ?_ | refine dno rfl rfl ?_)) <;> (
      refine dv rfl rfl (fun _ => rfl) (dn (rv rfl rfl (rn (aT ?_))))
      repeat (first | refine then_ret ?_ | refine inBlock_ret ?_)
      refine rr rfl rfl ?_
      first | rfl | (simp [*]; done) | (simp [crossV, apartV]; done) | (simp [crossV, apartV, *]; done) | (simp_all [crossV, apartV]; done))))))))))))))))))
end
section
attribute [local irreducible] awp aops DP PCall ACall Decidable.decide
theorem add_c {a b c d : Int} : PCall Tryz.prog 135 [.agg [.int .i64 a, .int .i64 b], .agg [.int .i64 c, .int .i64 d]] (· = addT (addB a b c d) (W (a + c)) (W (b + d))) := by
  refine pB_ Tryz.func135 ?_
  refine aSR (rb rfl rfl (rb rfl rfl (ra rfl rfl rfl (rv rfl rfl (rn (aS (aSR (rv rfl rfl (rc1 rfl rfl rfl mayP_c (rg 2 rfl ?_))))))))))
  ((first | refine gy_ (rv rfl rfl ?_) | refine gn_ ?_ | refine gu_ ?_ | refine gs rfl rfl rfl rfl rfl (fun hg => rv rfl rfl ?_) fun hg => ?_)) <;> (
  (first | refine gy_ (rc1 rfl rfl rfl mayP_c (?_)) | refine gn_ ?_ | refine gu_ ?_ | refine gs rfl rfl rfl rfl rfl (fun hg => rc1 rfl rfl rfl mayP_c (?_)) fun hg => ?_) <;> (
  ((first | refine gy_ (rv rfl rfl ?_) | refine gn_ ?_ | refine gu_ ?_ | refine gs rfl rfl rfl rfl rfl (fun hg => rv rfl rfl ?_) fun hg => ?_)) <;> (
  refine rv rfl rfl (rn (then_normal ?_))
  refine cs_ rfl (fun hc => ?_) (fun hc => ?_)
  · first
    | (cases hc; done)
    | (
      refine aSR (rg 2 rfl (rs rfl rfl rfl rfl rfl rfl rfl (rv rfl rfl (rn (aT ?_)))))
      repeat (first | refine then_ret ?_ | refine inBlock_ret ?_)
      refine rr rfl rfl ?_
      (have hq : addB a b c d = true ∨ addB a b c d = false := by cases addB a b c d <;> simp) <;> rcases hq with hq | hq <;> first | (rw [hq]; rfl) | (exfalso; simp_all [addB]; done))
  · first
    | (cases hc; done)
    | (
      refine aK (aSR (rg 11 rfl (ra rfl rfl rfl (rs rfl rfl rfl rfl rfl rfl rfl (rn (aS (aSR (rv rfl rfl (rc1 rfl rfl rfl mayP_c (rv rfl rfl (rn (then_normal ?_))))))))))))
      refine cs_ rfl (fun hc => ?_) (fun hc => ?_)
      · first
        | (cases hc; done)
        | (
          refine aSR (rg 2 rfl (rs rfl rfl rfl rfl rfl rfl rfl (rv rfl rfl (rn (aT ?_)))))
          repeat (first | refine then_ret ?_ | refine inBlock_ret ?_)
          refine rr rfl rfl ?_
          (have hq : addB a b c d = true ∨ addB a b c d = false := by cases addB a b c d <;> simp) <;> rcases hq with hq | hq <;> first | (rw [hq]; rfl) | (exfalso; simp_all [addB]; done))
      · first
        | (cases hc; done)
        | (
          refine aK (aSR (rv rfl rfl (rs rfl rfl rfl rfl rfl rfl rfl (rv rfl rfl (rn (aT ?_))))))
          repeat (first | refine then_ret ?_ | refine inBlock_ret ?_)
          refine rr rfl rfl ?_
          (have hq : addB a b c d = true ∨ addB a b c d = false := by cases addB a b c d <;> simp) <;> rcases hq with hq | hq <;> first | (rw [hq]; rfl) | (exfalso; simp_all [addB]; done))))))
end
theorem add_cb {a b c d : Int} {p : Bool} (h : addB a b c d = p) : PCall Tryz.prog 135 [.agg [.int .i64 a, .int .i64 b], .agg [.int .i64 c, .int .i64 d]] (· = addT p (W (a + c)) (W (b + d))) := h ▸ add_c
end Go.Proofs.YtbkomicjhfldmaaGreatDoor
namespace Go.Proofs.YtbkomicjhfldmaaGreatDoor
open Go.Pv
set_option maxRecDepth 100000
set_option maxHeartbeats 4000000
set_option linter.unusedSimpArgs false
set_option linter.unusedVariables false
set_option linter.unusedSectionVars false
def detZ (a b c d x y : Int) : Int := (c - a) * (y - b) - (d - b) * (x - a)
def sgn (z : Int) : Int := if z < 0 then -1 else if 0 < z then 1 else 0
theorem turn_det {a b c d x y : Int} (h1 : mayP a b = true) (h2 : mayP c d = true) (h3 : mayP x y = true) : turnV a b c d x y = sgn (detZ a b c d x y) := by
  rw [mayP_iff] at h1 h2 h3
  obtain ⟨b1, b2⟩ := h1
  obtain ⟨b3, b4⟩ := h2
  obtain ⟨b5, b6⟩ := h3
  have m1 := mul_dd (a := c - a) (b := y - b) (by unfold Bd at *; omega) (by unfold Bd at *; omega)
  have m2 := mul_dd (a := d - b) (b := x - a) (by unfold Bd at *; omega) (by unfold Bd at *; omega)
  unfold turnV
  rw [W_sub b3 b1, W_sub b6 b2, W_sub b4 b2, W_sub b5 b1, W_id (by omega), W_id (by omega)]
  unfold sg sgn detZ
  split <;> split <;> first | rfl | omega | (split <;> split <;> first | rfl | omega) | (split <;> first | rfl | omega)
theorem sgn_neg (z : Int) : sgn (-z) = - sgn z := by unfold sgn; split <;> split <;> first | rfl | omega | (split <;> split <;> first | rfl | omega) | (split <;> first | rfl | omega)
theorem det_swap (a b c d x y : Int) : detZ c d a b x y = - detZ a b c d x y := by
  simp only [detZ, Int.sub_mul, Int.mul_sub, Int.mul_comm a, Int.mul_comm c, Int.mul_comm x]; omega
theorem btw_comm (x y n : Int) : btw y x n = btw x y n := by unfold btw; rw [mn_eq, mx_eq, mn_eq, mx_eq, Int.min_comm, Int.max_comm]
theorem btw_add (x y n p : Int) : btw (x + p) (y + p) (n + p) = btw x y n := by
  rw [Bool.eq_iff_iff]; simp only [btw, mn_eq, mx_eq, Bool.and_eq_true, decide_eq_true_eq]; omega
section
variable {a b c d x y x' y' : Int}
theorem turn_swap (h1 : mayP a b = true) (h2 : mayP c d = true) (h3 : mayP x y = true) : turnV c d a b x y = - turnV a b c d x y := by
  rw [turn_det h1 h2 h3, turn_det h2 h1 h3, det_swap, sgn_neg]
theorem on_swap (h1 : mayP a b = true) (h2 : mayP c d = true) (h3 : mayP x y = true) : onV c d a b x y = onV a b c d x y := by
  unfold onV
  rw [turn_swap h1 h2 h3, btw_comm, btw_comm d]
  congr 2
  rw [decide_eq_decide]; omega
theorem cross_swap (h1 : mayP a b = true) (h2 : mayP c d = true) (h3 : mayP x y = true) (h4 : mayP x' y' = true) : crossV x y x' y' c d a b = crossV a b c d x y x' y' := by
  unfold crossV apartV
  rw [on_swap h1 h2 h3, on_swap h1 h2 h4, turn_swap h1 h2 h3, turn_swap h1 h2 h4, Int.neg_mul_neg, Int.mul_comm (turnV x y x' y' c d)]
  generalize onV x y x' y' c d = p, onV x y x' y' a b = q, onV a b c d x y = r, onV a b c d x' y' = s, decide (W (turnV a b c d x y * turnV a b c d x' y') < 0) = t, decide (W (turnV x y x' y' a b * turnV x y x' y' c d) < 0) = u
  cases p <;> cases q <;> cases r <;> cases s <;> cases t <;> cases u <;> rfl
theorem may_add (h : addB a b x y = true) : mayP a b = true ∧ mayP x y = true ∧ W (a + x) = a + x ∧ W (b + y) = b + y ∧ mayP (a + x) (b + y) = true := by
  simp only [addB, Bool.and_eq_true] at h
  obtain ⟨⟨h1, h2⟩, h3⟩ := h
  have k1 := mayP_iff.1 h1
  have k2 := mayP_iff.1 h2
  have e1 := W_add k1.1 k2.1
  have e2 := W_add k1.2 k2.2
  rw [e1, e2] at h3
  exact ⟨h1, h2, e1, e2, h3⟩
end
end Go.Proofs.YtbkomicjhfldmaaGreatDoor
namespace Go.Proofs.YtbkomicjhfldmaaGreatDoor
open Go.Pv
set_option maxRecDepth 100000
set_option maxHeartbeats 4000000
set_option linter.unusedSimpArgs false
set_option linter.unusedVariables false
set_option linter.unusedSectionVars false
section
attribute [local irreducible] awp aops DP PCall ACall Decidable.decide
theorem rmore_c {x y : Int} : PCall Tryz.prog 138 [.int .i64 x, .int .i64 y] (· = .int .i64 (mor x y)) := by
  refine pB_ Tryz.func138 ?_
  refine aSR (rv rfl rfl (rn (aSR (rg 4 rfl (rc1 rfl rfl rfl rless_c (rg 2 rfl (rn (aT ?_))))))))
  repeat (first | refine then_ret ?_ | refine inBlock_ret ?_)
  refine rr rfl rfl ?_
  first | rfl | (simp only [mor]; done)
end
section
attribute [local irreducible] awp aops DP PCall ACall Decidable.decide
theorem rjoin_c {a b c d a' b' c' d' : Int} : PCall Tryz.prog 90 [.agg [.int .i64 a, .int .i64 b, .int .i64 c, .int .i64 d], .agg [.int .i64 a', .int .i64 b', .int .i64 c', .int .i64 d']] (· = .agg [.int .i64 (mn a' a), .int .i64 (mn b' b), .int .i64 (mor c c'), .int .i64 (mor d d')]) := by
  refine pB_ Tryz.func90 ?_
  refine aSR (rb rfl rfl (rb rfl rfl (ra rfl rfl rfl (rn (aS (dP_ 21 Tryz.mix (dv rfl rfl (fun _ => rfl) (dv rfl rfl (fun _ => rfl) (dv rfl rfl (fun _ => rfl) (dv rfl rfl (fun _ => rfl) (dc rfl rfl rfl rfl (fun _ => rfl) (fun _ => rless_c) (dv rfl rfl (fun _ => rfl) (dv rfl rfl (fun _ => rfl) (dv rfl rfl (fun _ => rfl) (dv rfl rfl (fun _ => rfl) (dc rfl rfl rfl rfl (fun _ => rfl) (fun _ => rless_c) (dv rfl rfl (fun _ => rfl) (dv rfl rfl (fun _ => rfl) (dv rfl rfl (fun _ => rfl) (dv rfl rfl (fun _ => rfl) (dc rfl rfl rfl rfl (fun _ => rfl) (fun _ => (rmore_c)) (dv rfl rfl (fun _ => rfl) (dv rfl rfl (fun _ => rfl) (dv rfl rfl (fun _ => rfl) (dv rfl rfl (fun _ => rfl) (dc rfl rfl rfl rfl (fun _ => rfl) (fun _ => (rmore_c)) (dv rfl rfl (fun _ => rfl) (dn (rs rfl rfl rfl rfl rfl rfl rfl (rn (aT ?_)))))))))))))))))))))))))))))))
  repeat (first | refine then_ret ?_ | refine inBlock_ret ?_)
  refine rr rfl rfl ?_
  first | rfl | (simp [*]; done) | (simp []; done) | (simp [*]; done) | (simp_all []; done)
end
end Go.Proofs.YtbkomicjhfldmaaGreatDoor
namespace Go.Proofs.YtbkomicjhfldmaaGreatDoor
open Go.Pv
set_option maxRecDepth 100000
set_option maxHeartbeats 4000000
set_option linter.unusedSimpArgs false
set_option linter.unusedVariables false
set_option linter.unusedSectionVars false
theorem mn_comm (x y : Int) : mn x y = mn y x := by unfold mn; omega
end Go.Proofs.YtbkomicjhfldmaaGreatDoor
namespace Go.Proofs.YtbkomicjhfldmaaGreatDoor
open Go.Pv
set_option maxRecDepth 100000
set_option maxHeartbeats 4000000
set_option linter.unusedSimpArgs false
set_option linter.unusedVariables false
set_option linter.unusedSectionVars false
abbrev Pt := Int × Int
def pr (p : Pt) : List AV := [.int .i64 p.1, .int .i64 p.2]
def rows (ps : List Pt) : List (List AV) := ps.map pr
theorem rows_len (ps : List Pt) : (rows ps).length = ps.length := by simp [rows]
theorem rows_get {ps : List Pt} {i : Nat} (h : i < ps.length) : (rows ps)[((i : Int)).toNat]? = some [.int .i64 (ps[i]'h).1, .int .i64 (ps[i]'h).2] := by
  simp [rows, pr, h]
theorem rows_wide (ps : List Pt) : Wide 2 (rows ps) := by
  intro r hr
  obtain ⟨p, _, rfl⟩ := List.mem_map.1 hr
  rfl
def may1 (p : Pt) : Bool := mayP p.1 p.2
def box (ps : List Pt) : Nat → Int × Int × Int × Int
  | 0 => (0, 0, 0, 0)
  | i + 1 => match ps[i]? with
    | none => (0, 0, 0, 0)
    | some p => if i = 0 then (p.1, p.2, p.1, p.2) else
      let b := box ps i
      (mn b.1 p.1, mn b.2.1 p.2, mx b.2.2.1 p.1, mx b.2.2.2 p.2)
theorem box_succ {ps : List Pt} {i : Nat} (h : i < ps.length) (h0 : decide ((i : Int) > 0) = true) :
    box ps (i + 1) = (mn (box ps i).1 (ps[i]'h).1, mn (box ps i).2.1 (ps[i]'h).2, mx (box ps i).2.2.1 (ps[i]'h).1, mx (box ps i).2.2.2 (ps[i]'h).2) := by
  have : i ≠ 0 := by simp at h0; omega
  simp [box, h, this]
theorem box_one {ps : List Pt} {i : Nat} (h : i < ps.length) (h0 : decide ((i : Int) > 0) = false) : box ps (i + 1) = ((ps[i]'h).1, (ps[i]'h).2, (ps[i]'h).1, (ps[i]'h).2) := by
  have : i = 0 := by simp at h0; omega
  subst this
  simp [box, h]
def allMay (ps : List Pt) : Bool := ps.all may1
def ofT (ps : List Pt) : AV := .tup [.agg [.int .i64 (mt (allMay ps) (box ps ps.length).1), .int .i64 (mt (allMay ps) (box ps ps.length).2.1), .int .i64 (mt (allMay ps) (box ps ps.length).2.2.1), .int .i64 (mt (allMay ps) (box ps ps.length).2.2.2)], .bool (allMay ps && decide (((rows ps).length : Int) > 0))]
theorem allMay_no {ps : List Pt} {i : Nat} (h : i < ps.length) (hm : mayP (ps[i]'h).1 (ps[i]'h).2 = false) : allMay ps = false := by
  rw [Bool.eq_false_iff]
  intro ha
  have := List.all_eq_true.1 ha _ (List.getElem_mem h)
  rw [may1, hm] at this; cases this
theorem take_succ {ps : List Pt} {i : Nat} (h : i < ps.length) (ha : allMay (ps.take i) = true) (hm : mayP (ps[i]'h).1 (ps[i]'h).2 = true) : allMay (ps.take (i + 1)) = true := by
  rw [List.take_add_one, List.getElem?_eq_getElem h]
  simp only [allMay, List.all_append] at *
  simp [ha, may1, hm]
theorem allMay_end {ps : List Pt} {i : Nat} (h : i ≤ ps.length ∧ allMay (ps.take i) = true) (hn : ¬ i < ps.length) : allMay ps = true ∧ ps.length = i := by
  have : i = ps.length := by omega
  subst this
  simpa using h.2
theorem not_lt_len {i : Nat} {ps : List Pt} (h : decide ((i : Int) < ((rows ps).length : Int)) = false) : ¬ i < ps.length := by
  rw [rows_len] at h; simp at h; omega
theorem lt_len {i : Nat} {ps : List Pt} (h : decide ((i : Int) < ((rows ps).length : Int)) = true) : i < ps.length := by
  rw [rows_len] at h; simp at h; omega
section
attribute [local irreducible] awp aops DP PCall ACall Decidable.decide
theorem of_c {ps : List Pt} (hl : ps.length ≤ maxLen) : PCall Tryz.prog 128 [.sl (rows ps)] (· = ofT ps) := by
  refine pB_ Tryz.func128 ?_
  refine aSR (ra rfl rfl rfl (rv rfl rfl (rn (aSR (ra rfl rfl rfl (rn (aS (aSR (rg 3 rfl (rn (aB ?_)))))))))))
  refine awp_loop (ι := Nat) (fun i => ⟨[(0, .sl (rows ps)), (2, .ptr 0 0), (3, .bool false), (4, .ptr 1 0), (8, .sl (rows ps)), (9, .int .i64 ((rows ps).length : Int)), (10, .int .i64 (i : Int))], [(0, 0, .int .i64 0), (0, 1, .int .i64 0), (0, 2, .int .i64 0), (0, 3, .int .i64 0), (1, 0, .int .i64 (box ps i).1), (1, 1, .int .i64 (box ps i).2.1), (1, 2, .int .i64 (box ps i).2.2.1), (1, 3, .int .i64 (box ps i).2.2.2)], [], 2⟩) (fun i => i ≤ ps.length ∧ allMay (ps.take i) = true) (fun i => ps.length - i) (0) (⟨Nat.zero_le _, rfl⟩) ?_ (fun _ => Nat.zero_le _) (fun i hi => ?_)
  · (refine ⟨Nat.le_of_ble_eq_true rfl, ?_, ?_, ?_⟩ <;> repeat' (first | exact trivial | rfl | refine ⟨⟨?_, rfl⟩, ?_⟩ | refine ⟨⟨?_, rfl, rfl⟩, ?_⟩ | ((first | refine ei ?_ | refine eh ?_ | refine eb ?_ | refine ehb ?_ | skip); first | exact W_succ hlt hl | (rw [box_succ hlt hc]; done) | (rw [box_one hlt hc]; done))))
  refine aSR (rv rfl rfl (rn (aS ?_)))
  refine cs_ rfl (fun hc => ?_) (fun hc => ?_)
  · first
    | (cases hc; done)
    | (
      refine aK (aS (aB (aS ?_)))
      (have hlt := lt_len hc) <;> (
      refine aR (rv rfl rfl (ri rfl rfl rfl rfl rfl rfl (Int.natCast_nonneg i) (rows_get hlt) (rows_wide ps) (rv rfl rfl (ra rfl rfl rfl (rv rfl rfl (rs rfl rfl rfl rfl rfl rfl rfl (rn (aS (aSR (rv rfl rfl (rc1 rfl rfl rfl mayP_c (rv rfl rfl (rn (then_normal ?_))))))))))))))
      refine cs_ rfl (fun hc => ?_) (fun hc => ?_)
      · first
        | (cases hc; done)
        | (
          refine aSR (rv rfl rfl (rs rfl rfl rfl rfl rfl rfl rfl (rv rfl rfl (rn (aT ?_)))))
          repeat (first | refine then_ret ?_ | refine inBlock_ret ?_)
          refine rr rfl rfl ?_
          first | (have hm := allMay_no hlt (by simpa using hc); simp only [ofT, hm, mt]; rfl) | (have hal := allMay_end hi (not_lt_len hc); simp only [ofT, hal.1, hal.2, mt]; rfl))
      · first
        | (cases hc; done)
        | (
          refine aK (aS ?_)
          (have hm := hc) <;> (
          refine aR (rg 9 rfl (ra rfl rfl rfl (rs rfl rfl rfl rfl rfl rfl rfl (rn (aS (aSR (rg 2 rfl (rn (then_normal ?_)))))))))
          refine cs_ rfl (fun hc => ?_) (fun hc => ?_)
          · first
            | (cases hc; done)
            | (
              refine aR (rg 2 rfl (rc1 rfl rfl rfl joinR_c (rs rfl rfl rfl rfl rfl rfl rfl (rn (aR (rv rfl rfl (rs rfl rfl rfl rfl rfl rfl rfl (rn (inBlock_normal (aR (rg 2 rfl (rn (then_normal ?_)))))))))))))
              refine ⟨i + 1, ⟨hlt, take_succ hlt hi.2 (by simpa using hm)⟩, by omega, ?_⟩
              (refine ⟨Nat.le_of_ble_eq_true rfl, ?_, ?_, ?_⟩ <;> repeat' (first | exact trivial | rfl | refine ⟨⟨?_, rfl⟩, ?_⟩ | refine ⟨⟨?_, rfl, rfl⟩, ?_⟩ | ((first | refine ei ?_ | refine eh ?_ | refine eb ?_ | refine ehb ?_ | skip); first | exact W_succ hlt hl | (rw [box_succ hlt hc]; done) | (rw [box_one hlt hc]; done)))))
          · first
            | (cases hc; done)
            | (
              refine aK (aR (rv rfl rfl (rs rfl rfl rfl rfl rfl rfl rfl (rn (inBlock_normal (aR (rg 2 rfl (rn (then_normal ?_)))))))))
              refine ⟨i + 1, ⟨hlt, take_succ hlt hi.2 (by simpa using hm)⟩, by omega, ?_⟩
              (refine ⟨Nat.le_of_ble_eq_true rfl, ?_, ?_, ?_⟩ <;> repeat' (first | exact trivial | rfl | refine ⟨⟨?_, rfl⟩, ?_⟩ | refine ⟨⟨?_, rfl, rfl⟩, ?_⟩ | ((first | refine ei ?_ | refine eh ?_ | refine eb ?_ | refine ehb ?_ | skip); first | exact W_succ hlt hl | (rw [box_succ hlt hc]; done) | (rw [box_one hlt hc]; done)))))))))
  · first
    | (cases hc; done)
    | (
      refine awp_exit ?_
      repeat (first | refine then_exit ?_ | refine inBlock_other rfl ?_)
      refine inBlock_exit (aSR (rg 4 rfl (rs rfl rfl rfl rfl rfl rfl rfl (rv rfl rfl (rn (aT ?_))))))
      repeat (first | refine then_ret ?_ | refine inBlock_ret ?_)
      refine rr rfl rfl ?_
      first | (have hm := allMay_no hlt (by simpa using hc); simp only [ofT, hm, mt]; rfl) | (have hal := allMay_end hi (not_lt_len hc); simp only [ofT, hal.1, hal.2, mt]; rfl))
end
def rbox (ps : List Pt) : Nat → Int × Int × Int × Int
  | 0 => match ps[0]? with
    | none => (0, 0, 0, 0)
    | some p => (p.1, p.2, p.1, p.2)
  | i + 1 => match ps[i]? with
    | none => (0, 0, 0, 0)
    | some p => let b := rbox ps i
      (mn p.1 b.1, mn p.2 b.2.1, mor b.2.2.1 p.1, mor b.2.2.2 p.2)
theorem rows_get0 {ps : List Pt} (h : 0 < ps.length) : (rows ps)[(0 : Int).toNat]? = some [.int .i64 (ps[0]'h).1, .int .i64 (ps[0]'h).2] := rows_get (i := 0) h
theorem rbox_zero {ps : List Pt} (h : 0 < ps.length) : rbox ps 0 = ((ps[0]'h).1, (ps[0]'h).2, (ps[0]'h).1, (ps[0]'h).2) := by simp [rbox, h]
theorem rbox_succ {ps : List Pt} {i : Nat} (h : i < ps.length) :
    rbox ps (i + 1) = (mn (ps[i]'h).1 (rbox ps i).1, mn (ps[i]'h).2 (rbox ps i).2.1, mor (rbox ps i).2.2.1 (ps[i]'h).1, mor (rbox ps i).2.2.2 (ps[i]'h).2) := by
  simp [rbox, h]
def rofB (ps : List Pt) : Bool := allMay ps && decide (0 < ps.length)
def rofT (ps : List Pt) : AV := .tup [.agg [.int .i64 (mt (rofB ps) (rbox ps ps.length).1), .int .i64 (mt (rofB ps) (rbox ps ps.length).2.1), .int .i64 (mt (rofB ps) (rbox ps ps.length).2.2.1), .int .i64 (mt (rofB ps) (rbox ps ps.length).2.2.2)], .bool (rofB ps)]
theorem len_zero {ps : List Pt} (h : decide (((rows ps).length : Int) = 0) = true) : rofB ps = false := by
  rw [rows_len] at h; simp [rofB]; intro _; simp at h; simp [h]
theorem len_pos {ps : List Pt} (h : decide (((rows ps).length : Int) = 0) = false) : 0 < ps.length := by
  rw [rows_len] at h; simp at h; cases ps <;> simp_all
theorem bd_mn {x y : Int} (h : Bd x) (k : Bd y) : Bd (mn x y) := by unfold mn; split <;> assumption
theorem bd_mx {x y : Int} (h : Bd x) (k : Bd y) : Bd (mx x y) := by unfold mx; split <;> assumption
theorem bd_box {ps : List Pt} (ha : allMay ps = true) : ∀ i, i < ps.length → BdR (box ps (i + 1)).1 (box ps (i + 1)).2.1 (box ps (i + 1)).2.2.1 (box ps (i + 1)).2.2.2 ∧ rbox ps (i + 1) = box ps (i + 1)
  | 0, h => by
    have hm := List.all_eq_true.1 ha _ (List.getElem_mem h)
    rw [may1, mayP_iff] at hm
    rw [box_one h rfl, rbox_succ h, rbox_zero h]
    refine ⟨⟨hm.1, hm.2, hm.1, hm.2⟩, ?_⟩
    rw [mor_eq hm.1 hm.1, mor_eq hm.2 hm.2]
    simp [mn, mx]
  | i + 1, h => by
    have hm := List.all_eq_true.1 ha _ (List.getElem_mem h)
    rw [may1, mayP_iff] at hm
    obtain ⟨⟨b1, b2, b3, b4⟩, he⟩ := bd_box ha i (by omega)
    rw [box_succ h (by first | (simp; done) | (simp; omega)), rbox_succ h, he]
    refine ⟨⟨bd_mn b1 hm.1, bd_mn b2 hm.2, bd_mx b3 hm.1, bd_mx b4 hm.2⟩, ?_⟩
    rw [mor_eq b3 hm.1, mor_eq b4 hm.2, mn_comm (ps[i + 1].1), mn_comm (ps[i + 1].2)]
theorem ofs (ps : List Pt) : allMay ps = true ∧ 0 < ps.length ∧ rofB ps = true ∧ rbox ps ps.length = box ps ps.length ∨ rofB ps = false ∧ (allMay ps = false ∨ ps = []) := by
  cases ha : allMay ps with
  | false => exact .inr ⟨by simp [rofB, ha], .inl rfl⟩
  | true =>
    cases hp : ps.length with
    | zero => exact .inr ⟨by simp [rofB, hp], .inr (List.length_eq_zero_iff.1 hp)⟩
    | succ n => exact .inl ⟨rfl, by omega, by simp [rofB, ha, hp], (bd_box ha n (by omega)).2⟩
theorem rof_no {ps : List Pt} (h : rofB ps = false) : AV.tup [AV.agg [AV.int .i64 0, AV.int .i64 0, AV.int .i64 0, AV.int .i64 0], AV.bool false] = rofT ps := by
  unfold rofT; rw [h]; rfl
theorem rof_yes {ps : List Pt} {i : Nat} (h : rofB ps = true) (hn : ps.length = i) : AV.tup [AV.agg [AV.int .i64 (rbox ps i).1, AV.int .i64 (rbox ps i).2.1, AV.int .i64 (rbox ps i).2.2.1, AV.int .i64 (rbox ps i).2.2.2], AV.bool true] = rofT ps := by
  unfold rofT; rw [h, hn]; rfl
theorem rofB_no {ps : List Pt} (h : allMay ps = false) : rofB ps = false := by unfold rofB; rw [h]; rfl
theorem rofB_yes {ps : List Pt} (h : allMay ps = true) (k : 0 < ps.length) : rofB ps = true := by unfold rofB; rw [h, decide_eq_true k]; rfl
section
attribute [local irreducible] awp aops DP PCall ACall Decidable.decide
theorem rof_c {ps : List Pt} (hl : ps.length ≤ maxLen) : PCall Tryz.prog 52 [.sl (rows ps)] (· = rofT ps) := by
  refine pB_ Tryz.func52 ?_
  refine aSR (ra rfl rfl rfl (rv rfl rfl (rn (aS (aSR (rg 3 rfl (rn (then_normal ?_))))))))
  refine cs_ rfl (fun hc => ?_) (fun hc => ?_)
  · first
    | (cases hc; done)
    | (
      refine aSR (rv rfl rfl (rs rfl rfl rfl rfl rfl rfl rfl (rv rfl rfl (rn (aT ?_)))))
      repeat (first | refine then_ret ?_ | refine inBlock_ret ?_)
      refine rr rfl rfl ?_
      first | exact rof_no (len_zero hc) | exact rof_no (rofB_no (allMay_no hlt (by simpa using hc))) | exact rof_yes (rofB_yes (allMay_end hi (not_lt_len hc)).1 hpos) (allMay_end hi (not_lt_len hc)).2)
  · first
    | (cases hc; done)
    | (
      refine aK (aS ?_)
      (have hpos := len_pos hc) <;> (
      refine dP_ 18 Tryz.mix (dv rfl rfl (fun _ => rfl) (di rfl rfl rfl rfl rfl (fun _ => rfl) rfl (Int.le_refl 0) (rows_get0 hpos) (rows_wide ps) (dv rfl rfl (fun _ => rfl) (dv rfl rfl (fun _ => rfl) (dv rfl rfl (fun _ => rfl) (di rfl rfl rfl rfl rfl (fun _ => rfl) rfl (Int.le_refl 0) (rows_get0 hpos) (rows_wide ps) (dv rfl rfl (fun _ => rfl) (dv rfl rfl (fun _ => rfl) (dv rfl rfl (fun _ => rfl) (di rfl rfl rfl rfl rfl (fun _ => rfl) rfl (Int.le_refl 0) (rows_get0 hpos) (rows_wide ps) (dv rfl rfl (fun _ => rfl) (dv rfl rfl (fun _ => rfl) (dv rfl rfl (fun _ => rfl) (di rfl rfl rfl rfl rfl (fun _ => rfl) rfl (Int.le_refl 0) (rows_get0 hpos) (rows_wide ps) (dv rfl rfl (fun _ => rfl) (dv rfl rfl (fun _ => rfl) (dv rfl rfl (fun _ => rfl) (da rfl rfl rfl (dn (rs rfl rfl rfl rfl rfl rfl rfl (rn (aS (aSR (rv rfl rfl (rn (aB ?_))))))))))))))))))))))))))
      refine awp_loop (ι := Nat) (fun i => ⟨[(0, .sl (rows ps)), (2, .ptr 0 0), (3, .bool false), (4, .ptr 1 0), (5, .int .i64 (i : Int))], [(0, 0, .int .i64 0), (0, 1, .int .i64 0), (0, 2, .int .i64 0), (0, 3, .int .i64 0), (1, 0, .int .i64 (rbox ps i).1), (1, 1, .int .i64 (rbox ps i).2.1), (1, 2, .int .i64 (rbox ps i).2.2.1), (1, 3, .int .i64 (rbox ps i).2.2.2)], [], 2⟩) (fun i => i ≤ ps.length ∧ allMay (ps.take i) = true) (fun i => ps.length - i) (0) (⟨Nat.zero_le _, rfl⟩) ?_ (fun _ => Nat.zero_le _) (fun i hi => ?_)
      · (refine ⟨Nat.le_of_ble_eq_true rfl, ?_, ?_, ?_⟩ <;> repeat' (first | exact trivial | rfl | refine ⟨⟨?_, rfl⟩, ?_⟩ | refine ⟨⟨?_, rfl, rfl⟩, ?_⟩ | ((first | refine ei ?_ | refine eh ?_ | refine eb ?_ | refine ehb ?_ | skip); rw [rbox_zero hpos])))
      refine aS (aSR (rg 4 rfl (rn (then_normal ?_))))
      refine cs_ rfl (fun hc => ?_) (fun hc => ?_)
      · first
        | (cases hc; done)
        | (
          refine aK (aS (aB (aS ?_)))
          (have hlt := lt_len hc) <;> (
          refine aR (rg 2 rfl (ri rfl rfl rfl rfl rfl rfl (Int.natCast_nonneg i) (rows_get hlt) (rows_wide ps) (rv rfl rfl (rc1 rfl rfl rfl rmayP_c (rv rfl rfl (rn (aS (aSR (rg 2 rfl (rn (then_normal ?_)))))))))))
          refine cs_ rfl (fun hc => ?_) (fun hc => ?_)
          · first
            | (cases hc; done)
            | (
              refine aSR (rv rfl rfl (rs rfl rfl rfl rfl rfl rfl rfl (rv rfl rfl (rn (aT ?_)))))
              repeat (first | refine then_ret ?_ | refine inBlock_ret ?_)
              refine rr rfl rfl ?_
              first | exact rof_no (len_zero hc) | exact rof_no (rofB_no (allMay_no hlt (by simpa using hc))) | exact rof_yes (rofB_yes (allMay_end hi (not_lt_len hc)).1 hpos) (allMay_end hi (not_lt_len hc)).2)
          · first
            | (cases hc; done)
            | (
              refine aK (then_normal ?_)
              (have hm := hc) <;> (
              refine dP_ 23 Tryz.mix (dv rfl rfl (fun _ => rfl) (dv rfl rfl (fun _ => rfl) (dv rfl rfl (fun _ => rfl) (di rfl rfl rfl rfl rfl (fun _ => rfl) rfl (Int.natCast_nonneg i) (rows_get hlt) (rows_wide ps) (dv rfl rfl (fun _ => rfl) (dv rfl rfl (fun _ => rfl) (dv rfl rfl (fun _ => rfl) (dv rfl rfl (fun _ => rfl) (di rfl rfl rfl rfl rfl (fun _ => rfl) rfl (Int.natCast_nonneg i) (rows_get hlt) (rows_wide ps) (dv rfl rfl (fun _ => rfl) (dv rfl rfl (fun _ => rfl) (dv rfl rfl (fun _ => rfl) (dv rfl rfl (fun _ => rfl) (di rfl rfl rfl rfl rfl (fun _ => rfl) rfl (Int.natCast_nonneg i) (rows_get hlt) (rows_wide ps) (dv rfl rfl (fun _ => rfl) (dv rfl rfl (fun _ => rfl) (dv rfl rfl (fun _ => rfl) (dv rfl rfl (fun _ => rfl) (di rfl rfl rfl rfl rfl (fun _ => rfl) rfl (Int.natCast_nonneg i) (rows_get hlt) (rows_wide ps) (dv rfl rfl (fun _ => rfl) (dv rfl rfl (fun _ => rfl) (dv rfl rfl (fun _ => rfl) (dc rfl rfl rfl rfl (fun _ => rfl) (fun _ => rjoin_c) (dn (rs rfl rfl rfl rfl rfl rfl rfl (rn (inBlock_normal (aR (rg 3 rfl (rn (then_normal ?_)))))))))))))))))))))))))))))))
              refine ⟨i + 1, ⟨hlt, take_succ hlt hi.2 (by simpa using hm)⟩, by omega, ?_⟩
              (refine ⟨Nat.le_of_ble_eq_true rfl, ?_, ?_, ?_⟩ <;> repeat' (first | exact trivial | rfl | refine ⟨⟨?_, rfl⟩, ?_⟩ | refine ⟨⟨?_, rfl, rfl⟩, ?_⟩ | ((first | refine ei ?_ | refine eh ?_ | refine eb ?_ | refine ehb ?_ | skip); first | exact W_succ hlt hl | (rw [rbox_succ hlt]; done))))))))
      · first
        | (cases hc; done)
        | (
          refine awp_exit ?_
          repeat (first | refine then_exit ?_ | refine inBlock_other rfl ?_)
          refine inBlock_exit (aSR (rv rfl rfl (rs rfl rfl rfl rfl rfl rfl rfl (rv rfl rfl (rn (aT ?_))))))
          repeat (first | refine then_ret ?_ | refine inBlock_ret ?_)
          refine rr rfl rfl ?_
          first | exact rof_no (len_zero hc) | exact rof_no (rofB_no (allMay_no hlt (by simpa using hc))) | exact rof_yes (rofB_yes (allMay_end hi (not_lt_len hc)).1 hpos) (allMay_end hi (not_lt_len hc)).2)))
end
end Go.Proofs.YtbkomicjhfldmaaGreatDoor
namespace Go.Proofs.YtbkomicjhfldmaaGreatDoor
open Go.Pv
set_option maxRecDepth 100000
set_option maxHeartbeats 4000000
set_option linter.unusedSimpArgs false
set_option linter.unusedVariables false
set_option linter.unusedSectionVars false
def on (a b p : Pt) : Bool := onV a.1 a.2 b.1 b.2 p.1 p.2
def cr (a b c d : Pt) : Bool := crossV a.1 a.2 b.1 b.2 c.1 c.2 d.1 d.2
def tn (a b p : Pt) : Int := turnV a.1 a.2 b.1 b.2 p.1 p.2
def my (p : Pt) : Bool := mayP p.1 p.2
theorem on_sw {a b p : Pt} (ha : my a = true) (hb : my b = true) (hp : my p = true) : on b a p = on a b p := on_swap ha hb hp
theorem tn_sw {a b p : Pt} (ha : my a = true) (hb : my b = true) (hp : my p = true) : tn b a p = - tn a b p := turn_swap ha hb hp
theorem cr_sym {a b c d : Pt} (ha : my a = true) (hb : my b = true) (hc : my c = true) (hd : my d = true) : cr c d a b = cr a b c d := by
  have h1 := cross_swap (a := a.1) (b := a.2) (c := b.1) (d := b.2) (x := c.1) (y := c.2) (x' := d.1) (y' := d.2) ha hb hc hd
  have h2 : cr c d b a = cr c d a b := by
    unfold cr crossV apartV
    have e1 := on_sw hb ha hc; have e2 := on_sw hb ha hd
    have e3 := tn_sw hb ha hc; have e4 := tn_sw hb ha hd
    unfold on at e1 e2; unfold tn at e3 e4
    rw [e1, e2, e3, e4, Int.neg_mul_neg, Int.mul_comm (turnV c.1 c.2 d.1 d.2 b.1 b.2)]
    generalize onV c.1 c.2 d.1 d.2 a.1 a.2 = p, onV c.1 c.2 d.1 d.2 b.1 b.2 = q, onV b.1 b.2 a.1 a.2 c.1 c.2 = r, onV b.1 b.2 a.1 a.2 d.1 d.2 = s
    cases p <;> cases q <;> cases r <;> cases s <;> rfl
  rw [← h2]; exact h1
def pairs : Pt → List Pt → List (Pt × Pt)
  | _, [] => []
  | a, b :: t => (a, b) :: pairs b t
def edges : List Pt → List (Pt × Pt)
  | [] => []
  | a :: t => pairs a (t ++ [a])
theorem pairs_mem {a : Pt} : ∀ {t : List Pt} {e : Pt × Pt}, e ∈ pairs a t → (e.1 = a ∨ e.1 ∈ t) ∧ e.2 ∈ t
  | [], _, h => by cases h
  | b :: t, e, h => by
    rcases List.mem_cons.1 h with rfl | h
    · exact ⟨.inl rfl, by simp⟩
    · have := pairs_mem h
      refine ⟨.inr ?_, by simp [this.2]⟩
      rcases this.1 with h | h
      · simp [h]
      · simp [h]
theorem edge_mem {l : List Pt} {e : Pt × Pt} (h : e ∈ edges l) : e.1 ∈ l ∧ e.2 ∈ l := by
  cases l with
  | nil => cases h
  | cons a t =>
    have := pairs_mem h
    simp only [List.mem_append, List.mem_singleton, List.mem_cons] at this ⊢
    rcases this with ⟨h1, h2⟩
    have e0 : ∀ x : Pt, x ∉ ([] : List Pt) := fun _ h => by cases h
    refine ⟨?_, ?_⟩
    · rcases h1 with h | h | h
      · exact .inl h
      · exact .inr h
      · rcases h with h | h
        · exact .inl h
        · exact absurd h (e0 _)
    · rcases h2 with h | h
      · exact .inr h
      · rcases h with h | h
        · exact .inl h
        · exact absurd h (e0 _)
structure Simp (l : List Pt) : Prop where
  n3 : 3 ≤ l.length
  n64 : l.length ≤ 64
  may : ∀ p ∈ l, my p = true
  nd : l.Nodup
  nb : ∀ e ∈ edges l, ∀ f ∈ edges l, e.2 = f.1 → on e.1 e.2 f.2 = false ∧ on e.2 f.2 e.1 = false
  cx : ∀ e ∈ edges l, ∀ f ∈ edges l, e.1 ≠ f.1 → e.1 ≠ f.2 → e.2 ≠ f.1 → e.2 ≠ f.2 → cr e.1 e.2 f.1 f.2 = false
end Go.Proofs.YtbkomicjhfldmaaGreatDoor
namespace Go.Proofs.YtbkomicjhfldmaaGreatDoor
open Go.Pv
set_option maxRecDepth 100000
set_option maxHeartbeats 4000000
set_option linter.unusedSimpArgs false
set_option linter.unusedVariables false
set_option linter.unusedSectionVars false
def tog (p : Pt) (e : Pt × Pt) : Bool := (decide (e.1.2 > p.2) != decide (e.2.2 > p.2)) && (decide (e.2.2 > e.1.2) == decide (tn e.1 e.2 p > 0))
def cnt (p : Pt) (es : List (Pt × Pt)) : Nat := es.countP (tog p)
def inE (l : List Pt) (p : Pt) : Bool := (edges l).any (fun e => on e.1 e.2 p) || decide (cnt p (edges l) % 2 = 1)
end Go.Proofs.YtbkomicjhfldmaaGreatDoor
namespace Go.Proofs.YtbkomicjhfldmaaGreatDoor
open Go.Pv
set_option maxRecDepth 100000
set_option maxHeartbeats 4000000
set_option linter.unusedSimpArgs false
set_option linter.unusedVariables false
set_option linter.unusedSectionVars false
theorem tn_sgn {a b p : Pt} (ha : my a = true) (hb : my b = true) (hp : my p = true) : tn a b p = sgn (detZ a.1 a.2 b.1 b.2 p.1 p.2) := turn_det ha hb hp
def mv (d p : Pt) : Pt := (p.1 + d.1, p.2 + d.2)
theorem pairs_map (d a : Pt) : ∀ t : List Pt, pairs (mv d a) (t.map (mv d)) = (pairs a t).map fun e => (mv d e.1, mv d e.2)
  | [] => rfl
  | b :: t => by simp only [List.map_cons, pairs, pairs_map d b t]
theorem edges_map (d : Pt) (l : List Pt) : edges (l.map (mv d)) = (edges l).map fun e => (mv d e.1, mv d e.2) := by
  cases l with
  | nil => rfl
  | cons a t =>
    show pairs (mv d a) (t.map (mv d) ++ [mv d a]) = _
    have := pairs_map d a (t ++ [a])
    rw [List.map_append] at this
    exact this
theorem tn_mv {a b p d : Pt} (ha : my a = true) (hb : my b = true) (hp : my p = true) (ha' : my (mv d a) = true) (hb' : my (mv d b) = true) (hp' : my (mv d p) = true) : tn (mv d a) (mv d b) (mv d p) = tn a b p := by
  rw [tn_sgn ha hb hp, tn_sgn ha' hb' hp']
  congr 1
  unfold detZ mv
  simp only
  rw [show b.1 + d.1 - (a.1 + d.1) = b.1 - a.1 by omega, show p.2 + d.2 - (a.2 + d.2) = p.2 - a.2 by omega, show b.2 + d.2 - (a.2 + d.2) = b.2 - a.2 by omega, show p.1 + d.1 - (a.1 + d.1) = p.1 - a.1 by omega]
theorem on_mv {a b p d : Pt} (ha : my a = true) (hb : my b = true) (hp : my p = true) (ha' : my (mv d a) = true) (hb' : my (mv d b) = true) (hp' : my (mv d p) = true) : on (mv d a) (mv d b) (mv d p) = on a b p := by
  have ht := tn_mv ha hb hp ha' hb' hp'
  unfold on onV tn at *
  rw [ht]
  have e1 := btw_add a.1 b.1 p.1 d.1; have e2 := btw_add a.2 b.2 p.2 d.2
  simp only [mv] at *
  rw [e1, e2]
end Go.Proofs.YtbkomicjhfldmaaGreatDoor
namespace Go.Proofs.YtbkomicjhfldmaaGreatDoor
open Go.Pv
set_option maxRecDepth 100000
set_option maxHeartbeats 4000000
set_option linter.unusedSimpArgs false
set_option linter.unusedVariables false
set_option linter.unusedSectionVars false
def gp (l : List Pt) (i : Nat) : Pt := l.getD (i % l.length) (0, 0)
theorem gp_lt {l : List Pt} {i : Nat} (h : i < l.length) : gp l i = l[i] := by
  unfold gp; rw [Nat.mod_eq_of_lt h, List.getD_eq_getElem?_getD, List.getElem?_eq_getElem h]; rfl
theorem gp_mod (l : List Pt) (i : Nat) : gp l (i % l.length) = gp l i := by unfold gp; rw [Nat.mod_mod]
theorem gp_mem {l : List Pt} (h : 0 < l.length) (i : Nat) : gp l i ∈ l := by
  have hlt := Nat.mod_lt i h
  rw [← gp_mod, gp_lt hlt]; exact List.getElem_mem _
theorem pairs_len (a : Pt) : ∀ t : List Pt, (pairs a t).length = t.length
  | [] => rfl
  | b :: t => by simp only [pairs, List.length_cons, pairs_len b t]
theorem pairs_get : ∀ (a : Pt) (t : List Pt) (i : Nat) (h : i < t.length), (pairs a t)[i]? = some ((a :: t)[i]'(by simp; omega), t[i])
  | a, b :: t, 0, _ => rfl
  | a, b :: t, i + 1, h => by
    have := pairs_get b t i (by simpa using h)
    simp only [pairs, List.getElem?_cons_succ, this]; rfl
theorem edges_len (l : List Pt) : (edges l).length = l.length := by
  cases l with
  | nil => rfl
  | cons a t => show (pairs a (t ++ [a])).length = _; rw [pairs_len]; simp
theorem edges_get {l : List Pt} {i : Nat} (h : i < l.length) : (edges l)[i]? = some (gp l i, gp l (i + 1)) := by
  cases l with
  | nil => simp at h
  | cons a t =>
    show (pairs a (t ++ [a]))[i]? = _
    have hi : i < (t ++ [a]).length := by simpa using h
    rw [pairs_get a (t ++ [a]) i hi]
    congr 2
    · rw [gp_lt h]
      by_cases h0 : i = 0
      · subst h0; rfl
      · obtain ⟨j, rfl⟩ : ∃ j, i = j + 1 := ⟨i - 1, by omega⟩
        simp only [List.getElem_cons_succ]
        rw [List.getElem_append_left (by simpa using h)]
    · by_cases hl : i + 1 < (a :: t).length
      · rw [gp_lt hl]
        simp only [List.getElem_cons_succ]
        rw [List.getElem_append_left (by simpa using hl)]
      · have e : i + 1 = (a :: t).length := by simp at h hl ⊢; omega
        have e2 : i = t.length := by simpa using e
        unfold gp
        rw [e, Nat.mod_self]
        subst e2
        simp
theorem edge_ix {l : List Pt} {e : Pt × Pt} (h : e ∈ edges l) : ∃ i, i < l.length ∧ e = (gp l i, gp l (i + 1)) := by
  obtain ⟨i, hi⟩ := List.mem_iff_getElem?.1 h
  have hl : i < l.length := by rw [← edges_len]; exact (List.getElem?_eq_some_iff.1 hi).1
  rw [edges_get hl] at hi
  exact ⟨i, hl, (Option.some.inj hi).symm⟩
theorem ix_edge {l : List Pt} {i : Nat} (h : i < l.length) : (gp l i, gp l (i + 1)) ∈ edges l := List.mem_iff_getElem?.2 ⟨i, edges_get h⟩
theorem nodup_inj : ∀ {l : List Pt}, l.Nodup → ∀ {i j : Nat} (hi : i < l.length) (hj : j < l.length), l[i] = l[j] → i = j
  | [], _, i, _, hi, _, _ => by simp at hi
  | a :: l, h, i, j, hi, hj, e => by
    rw [List.nodup_cons] at h
    cases i with
    | zero =>
      cases j with
      | zero => rfl
      | succ j =>
        simp only [List.getElem_cons_zero, List.getElem_cons_succ] at e
        exact absurd (e ▸ List.getElem_mem _) h.1
    | succ i =>
      cases j with
      | zero =>
        simp only [List.getElem_cons_zero, List.getElem_cons_succ] at e
        exact absurd (e ▸ List.getElem_mem _) h.1
      | succ j =>
        simp only [List.getElem_cons_succ] at e
        rw [nodup_inj h.2 (by simpa using hi) (by simpa using hj) e]
theorem gp_inj {l : List Pt} (h : l.Nodup) (h0 : 0 < l.length) {i j : Nat} (e : gp l i = gp l j) : i % l.length = j % l.length := by
  have hi := Nat.mod_lt i h0; have hj := Nat.mod_lt j h0
  rw [← gp_mod l i, ← gp_mod l j, gp_lt hi, gp_lt hj] at e
  exact nodup_inj h hi hj e
theorem nodup_of : ∀ {l : List Pt}, (∀ i (h : i < l.length), l[i] ∉ l.take i) → l.Nodup := by
  intro l h
  rw [List.nodup_iff_pairwise_ne, List.pairwise_iff_getElem]
  intro i j hi hj hij e
  refine h j hj ?_
  rw [← e]
  exact List.mem_take_iff_getElem.2 ⟨i, by omega, rfl⟩
theorem nodup_take {l : List Pt} (h : l.Nodup) (i : Nat) (hi : i < l.length) : l[i] ∉ l.take i := by
  intro hm
  obtain ⟨j, hj, e⟩ := List.mem_take_iff_getElem.1 hm
  have := nodup_inj h (by omega) hi e
  omega
def nbI (l : List Pt) (i : Nat) : Bool := on (gp l i) (gp l (i + 1)) (gp l (i + 2)) || on (gp l (i + 1)) (gp l (i + 2)) (gp l i)
def crI (l : List Pt) (i k : Nat) : Bool := cr (gp l i) (gp l (i + 1)) (gp l k) (gp l (k + 1))
theorem succ_mod {i n : Nat} (h : i < n) : (i + 1) % n = if i + 1 = n then 0 else i + 1 := by
  split
  · rename_i e; rw [e, Nat.mod_self]
  · exact Nat.mod_eq_of_lt (by omega)
theorem simp_of {l : List Pt} (h3 : 3 ≤ l.length) (h64 : l.length ≤ 64) (hm : ∀ p ∈ l, my p = true) (hd : l.Nodup) (hnb : ∀ i, i < l.length → nbI l i = false)
    (hcx : ∀ i k, i + 2 ≤ k → k < l.length → (k + 1) % l.length ≠ i → crI l i k = false) : Simp l where
  n3 := h3
  n64 := h64
  may := hm
  nd := hd
  nb e he f hf hef := by
    obtain ⟨i, hi, rfl⟩ := edge_ix he
    obtain ⟨j, hj, rfl⟩ := edge_ix hf
    have hmod := gp_inj hd (by omega) hef
    have e2 : gp l (j + 1) = gp l (i + 2) := by
      rw [← gp_mod l (j + 1), ← gp_mod l (i + 2), Nat.add_mod j, ← hmod, ← Nat.add_mod]
    have := hnb i hi
    simp only [nbI, Bool.or_eq_false_iff] at this
    simp only [e2]
    exact this
  cx e he f hf h1 h2 h3' h4 := by
    obtain ⟨i, hi, rfl⟩ := edge_ix he
    obtain ⟨k, hk, rfl⟩ := edge_ix hf
    simp only at h1 h2 h3' h4 ⊢
    have hne : i ≠ k := fun e => h1 (by rw [e])
    have g : ∀ j, my (gp l j) = true := fun j => hm _ (gp_mem (by omega) j)
    have a1 : (k + 1) % l.length ≠ i := fun e => h2 (by rw [← gp_mod l (k + 1), e])
    have a2 : (i + 1) % l.length ≠ k := fun e => h3' (by rw [← gp_mod l (i + 1), e])
    by_cases hlt : i < k
    · refine hcx i k ?_ hk a1
      have : i + 1 ≠ k := fun e => a2 (by rw [e]; exact Nat.mod_eq_of_lt hk)
      omega
    · have := hcx k i (by
        have : k + 1 ≠ i := fun e => a1 (by rw [e]; exact Nat.mod_eq_of_lt hi)
        omega) hi a2
      unfold crI at this
      rw [cr_sym (g _) (g _) (g _) (g _)] at this
      exact this
theorem Simp.nbI {l : List Pt} (h : Simp l) {i : Nat} (hi : i < l.length) : Go.Proofs.YtbkomicjhfldmaaGreatDoor.nbI l i = false := by
  have h0 : 0 < l.length := by omega
  have he := ix_edge hi
  have hf := ix_edge (Nat.mod_lt (i + 1) h0)
  rw [gp_mod] at hf
  have e2 : gp l ((i + 1) % l.length + 1) = gp l (i + 2) := by
    rw [← gp_mod l (_ + 1), ← gp_mod l (i + 2), Nat.add_mod, Nat.mod_mod, ← Nat.add_mod]
  rw [e2] at hf
  have := h.nb _ he _ hf rfl
  simp only [Go.Proofs.YtbkomicjhfldmaaGreatDoor.nbI, Bool.or_eq_false_iff]
  exact this
theorem Simp.crI {l : List Pt} (h : Simp l) {i k : Nat} (hi : i < l.length) (hk : k < l.length) (h1 : k ≠ i) (h2 : k ≠ (i + 1) % l.length) (h3 : i ≠ (k + 1) % l.length) : Go.Proofs.YtbkomicjhfldmaaGreatDoor.crI l i k = false := by
  have h0 : 0 < l.length := by omega
  have ne : ∀ {a b : Nat}, a < l.length → b < l.length → a ≠ b → gp l a ≠ gp l b := fun ha hb hab e => by
    have := gp_inj h.nd h0 e
    rw [Nat.mod_eq_of_lt ha, Nat.mod_eq_of_lt hb] at this
    exact hab this
  have m1 : ∀ j, gp l (j + 1) = gp l ((j + 1) % l.length) := fun j => (gp_mod l (j + 1)).symm
  have a1 : gp l i ≠ gp l k := ne hi hk (Ne.symm h1)
  have a2 : gp l i ≠ gp l (k + 1) := by rw [m1 k]; exact ne hi (Nat.mod_lt _ h0) h3
  have a3 : gp l (i + 1) ≠ gp l k := by rw [m1 i]; exact ne (Nat.mod_lt _ h0) hk (Ne.symm h2)
  have a4 : gp l (i + 1) ≠ gp l (k + 1) := by
    rw [m1 i, m1 k]
    refine ne (Nat.mod_lt _ h0) (Nat.mod_lt _ h0) fun e => ?_
    rw [succ_mod hi, succ_mod hk] at e
    by_cases c1 : i + 1 = l.length
    · by_cases c2 : k + 1 = l.length
      · omega
      · rw [if_pos c1, if_neg c2] at e; omega
    · by_cases c2 : k + 1 = l.length
      · rw [if_neg c1, if_pos c2] at e; omega
      · rw [if_neg c1, if_neg c2] at e; omega
  exact h.cx (gp l i, gp l (i + 1)) (ix_edge hi) (gp l k, gp l (k + 1)) (ix_edge hk) a1 a2 a3 a4
def simpB (l : List Pt) : Bool := decide (3 ≤ l.length) && decide (l.length ≤ 64) && l.all my && decide l.Nodup && (List.range l.length).all (fun i => !nbI l i) &&
  (List.range l.length).all fun i => (List.range l.length).all fun k => decide (k < i + 2) || decide ((k + 1) % l.length = i) || !crI l i k
theorem simpB_iff (l : List Pt) : simpB l = true ↔ Simp l := by
  unfold simpB
  simp only [Bool.and_eq_true, decide_eq_true_eq, List.all_eq_true, List.mem_range, Bool.not_eq_true', Bool.or_eq_true]
  constructor
  · rintro ⟨⟨⟨⟨⟨h1, h2⟩, h3⟩, h4⟩, h5⟩, h6⟩
    refine simp_of h1 h2 h3 h4 h5 fun i k a b c => ?_
    rcases h6 i (by omega) k b with (h | h) | h
    · omega
    · exact absurd h c
    · exact h
  · intro h
    refine ⟨⟨⟨⟨⟨h.n3, h.n64⟩, h.may⟩, h.nd⟩, fun i hi => h.nbI hi⟩, fun i hi k hk => ?_⟩
    by_cases c1 : k < i + 2
    · exact .inl (.inl c1)
    · by_cases c2 : (k + 1) % l.length = i
      · exact .inl (.inr c2)
      · exact .inr (h.crI hi hk (by omega) (by rw [succ_mod hi]; split <;> omega) (Ne.symm c2))
theorem simpB_no {l : List Pt} (h : ¬ Simp l) : simpB l = false := by
  cases hb : simpB l with
  | false => rfl
  | true => exact absurd ((simpB_iff l).1 hb) h
end Go.Proofs.YtbkomicjhfldmaaGreatDoor
namespace Go.Proofs.YtbkomicjhfldmaaGreatDoor
open Go.Pv
set_option maxRecDepth 100000
set_option maxHeartbeats 4000000
set_option linter.unusedSimpArgs false
set_option linter.unusedVariables false
set_option linter.unusedSectionVars false
theorem rows_gp {l : List Pt} (h0 : 0 < l.length) (i : Nat) : (rows l)[(((i % l.length : Nat) : Int)).toNat]? = some [.int .i64 (gp l i).1, .int .i64 (gp l i).2] := by
  rw [rows_get (Nat.mod_lt i h0), ← gp_mod l i, gp_lt (Nat.mod_lt i h0)]
theorem rows_i {l : List Pt} {i : Nat} (h : i < l.length) : (rows l)[((i : Int)).toNat]? = some [.int .i64 (gp l i).1, .int .i64 (gp l i).2] := by
  rw [rows_get h, gp_lt h]
theorem tmod_rows (l : List Pt) (i : Nat) : Int.tmod (i : Int) ((rows l).length : Int) = ((i % l.length : Nat) : Int) := by rw [rows_len]; rfl
theorem len_ne {l : List Pt} (h0 : 0 < l.length) : ((rows l).length : Int) ≠ 0 := by rw [rows_len]; omega
theorem W_sm {i k : Nat} (h : i + k ≤ maxLen) : IntKind.wrap .i64 ((i : Int) + (k : Int)) = ((i + k : Nat) : Int) := by
  have := W_id (n := (i : Int) + (k : Int)) (by unfold maxLen at h; omega)
  rw [W] at this; rw [this]; rfl
def fixP (f : Pt → Bool) (l : List Pt) : Int := match l.findIdx? f with
  | some i => (i : Int)
  | none => -1
theorem find_hit {f : Pt → Bool} : ∀ {l : List Pt} {i : Nat} (h : i < l.length), (l.take i).any f = false → f (l[i]) = true → l.findIdx? f = some i
  | a :: l, 0, _, _, hf => by simp only [List.getElem_cons_zero] at hf; simp [List.findIdx?_cons, hf]
  | a :: l, i + 1, h, hn, hf => by
    simp only [List.take_succ_cons, List.any_cons, Bool.or_eq_false_iff] at hn
    simp only [List.getElem_cons_succ] at hf
    have := find_hit (l := l) (i := i) (by simpa using h) hn.2 hf
    simp [List.findIdx?_cons, hn.1, this]
theorem fix_hit {f : Pt → Bool} {l : List Pt} {i : Nat} (h : i < l.length) (hn : (l.take i).any f = false) (hf : f (gp l i) = true) : fixP f l = i := by
  unfold fixP; rw [gp_lt h] at hf; rw [find_hit h hn hf]
theorem fix_none {f : Pt → Bool} {l : List Pt} (h : l.any f = false) : fixP f l = -1 := by
  unfold fixP
  have : l.findIdx? f = none := by
    rw [List.findIdx?_eq_none_iff]; intro x hx; simpa using List.any_eq_false.1 h x hx
  rw [this]
theorem fix_ge (f : Pt → Bool) (l : List Pt) : decide (fixP f l ≥ 0) = l.any f := by
  cases h : l.any f with
  | false => rw [fix_none h]; rfl
  | true =>
    unfold fixP
    cases hf : l.findIdx? f with
    | some i => simp
    | none =>
      rw [List.findIdx?_eq_none_iff] at hf
      obtain ⟨x, hx, hx2⟩ := List.any_eq_true.1 h
      have := hf x hx; simp [hx2] at this
theorem any_succ {f : Pt → Bool} {l : List Pt} {i : Nat} (h : i < l.length) (hn : (l.take i).any f = false) (hf : f (gp l i) = false) : (l.take (i + 1)).any f = false := by
  rw [List.take_add_one, List.getElem?_eq_getElem h, List.any_append, hn]
  rw [gp_lt h] at hf; simp [hf]
theorem any_end {f : Pt → Bool} {l : List Pt} {i : Nat} (hn : i ≤ l.length ∧ (l.take i).any f = false) (h : ¬ i < l.length) : l.any f = false := by
  have : i = l.length := by omega
  subst this; simpa using hn.2
def eqP (a b : Pt) : Bool := a.1 == b.1 && a.2 == b.2
theorem eqP_iff {a b : Pt} : eqP a b = true ↔ a = b := by
  unfold eqP
  simp only [Bool.and_eq_true, beq_iff_eq]
  exact ⟨fun h => Prod.ext h.1 h.2, fun h => by rw [h]; exact ⟨rfl, rfl⟩⟩
def mayN (p : Pt) : Bool := !my p
theorem any_mayN (l : List Pt) : l.any mayN = !l.all my := by
  induction l with
  | nil => rfl
  | cons a l ih => simp only [List.any_cons, List.all_cons, ih, mayN, Bool.not_and]
section
attribute [local irreducible] awp aops DP PCall ACall Decidable.decide
theorem next_c {l : List Pt} {i : Nat} (h0 : 0 < l.length) (hi : i + 1 ≤ maxLen) : PCall Tryz.prog 120 [.sl (rows l), .int .i64 ((i : Nat) : Int)] (· = .agg [.int .i64 (gp l (i + 1)).1, .int .i64 (gp l (i + 1)).2]) := by
  refine pB_ Tryz.func120 ?_
  refine aSR (ra rfl rfl rfl (rn (aSR (rg 2 rfl (rv' rfl (ov_eq rfl (W_sm (k := 1) hi)) (rg 2 rfl (rv' rfl (ov_rem rfl rfl (len_ne h0) (tmod_rows l (i + 1))) (ri rfl rfl rfl rfl rfl rfl (Int.natCast_nonneg _) (rows_gp h0 _) (rows_wide l) (rv rfl rfl (rs rfl rfl rfl rfl rfl rfl rfl (rn (aT ?_))))))))))))
  repeat (first | refine then_ret ?_ | refine inBlock_ret ?_)
  refine rr rfl rfl ?_
  first | rfl | (simp [*]; done) | (simp []; done) | (simp [*]; done) | (simp_all []; done)
end
section
attribute [local irreducible] awp aops DP PCall ACall Decidable.decide
theorem neigh_c {a b c : Pt} : PCall Tryz.prog 119 [.agg [.int .i64 (a).1, .int .i64 (a).2], .agg [.int .i64 (b).1, .int .i64 (b).2], .agg [.int .i64 (c).1, .int .i64 (c).2]] (· = .bool (on a b c || on b c a)) := by
  refine pB_ Tryz.func119 ?_
  refine aSR (rb rfl rfl (rb rfl rfl (rb rfl rfl (rv rfl rfl (rn (aSR (rg 3 rfl (rc1 rfl rfl rfl on_c (rv rfl rfl ?_)))))))))
  (iterate 3 all_goals (first | refine gy_ (rv rfl rfl ?_) | refine gn_ ?_ | refine gu_ ?_ | refine gs rfl rfl rfl rfl rfl (fun hg => rv rfl rfl ?_) fun hg => ?_)) <;> (
  (first | refine gy_ (rc1 rfl rfl rfl on_c (?_)) | refine gn_ ?_ | refine gu_ ?_ | refine gs rfl rfl rfl rfl rfl (fun hg => rc1 rfl rfl rfl on_c (?_)) fun hg => ?_) <;> (
  refine rg 2 rfl (rn (aT ?_))
  repeat (first | refine then_ret ?_ | refine inBlock_ret ?_)
  refine rr rfl rfl ?_
  first | rfl | (simp [*]; done) | (simp [on]; done) | (simp [on, *]; done) | (simp_all [on]; done)))
end
section
attribute [local irreducible] awp aops DP PCall ACall Decidable.decide
theorem simple1_c {p : Pt} : PCall Tryz.prog 118 [.agg [.int .i64 (p).1, .int .i64 (p).2]] (· = .bool (mayN p)) := by
  refine pB_ Tryz.func118 ?_
  refine aSR (rb rfl rfl (rv rfl rfl (rn (aSR (rv rfl rfl (rc1 rfl rfl rfl mayP_c (rg 2 rfl (rn (aT ?_)))))))))
  repeat (first | refine then_ret ?_ | refine inBlock_ret ?_)
  refine rr rfl rfl ?_
  first | rfl | (simp [*]; done) | (simp [mayN, my]; done) | (simp [mayN, my, *]; done) | (simp_all [mayN, my]; done)
end
section
attribute [local irreducible] awp aops DP PCall ACall Decidable.decide
theorem ixf_c {l : List Pt} (hl : l.length ≤ maxLen) : PCall Tryz.prog 169 [.sl (rows l), .fn 118 []] (· = .int .i64 (fixP mayN l)) := by
  refine pB_ Tryz.func169 ?_
  refine aSR (rv rfl rfl (rn (aS (aSR (rg 3 rfl (rn (aB ?_)))))))
  refine awp_loop (ι := Nat) (fun i => ⟨[(0, .sl (rows l)), (1, .fn 118 []), (6, .sl (rows l)), (7, .int .i64 ((rows l).length : Int)), (8, .int .i64 (i : Int))], [], [], 0⟩) (fun i => i ≤ l.length ∧ (l.take i).any mayN = false) (fun i => l.length - i) (0) (⟨Nat.zero_le _, rfl⟩) ?_ (fun _ => Nat.zero_le _) (fun i hi => ?_)
  · (refine ⟨Nat.le_of_ble_eq_true rfl, ?_, ?_, ?_⟩ <;> repeat' (first | exact trivial | rfl | refine ⟨⟨?_, rfl⟩, ?_⟩ | refine ⟨⟨?_, rfl, rfl⟩, ?_⟩ | ((first | refine ei ?_ | refine eh ?_ | refine eb ?_ | refine ehb ?_ | skip); exact W_succ hlt hl)))
  refine aSR (rv rfl rfl (rn (aS ?_)))
  refine cs_ rfl (fun hc => ?_) (fun hc => ?_)
  · first
    | (cases hc; done)
    | (
      refine aK (aS (aB (aS ?_)))
      (have hlt := lt_len hc) <;> (
      refine aR (rg 2 rfl (rn (aSR (rg 3 rfl (ri rfl rfl rfl rfl rfl rfl (Int.natCast_nonneg i) (rows_i hlt) (rows_wide l) (rv rfl rfl (rc1 rfl rfl rfl simple1_c (rn (then_normal ?_)))))))))
      refine cs_ rfl (fun hc => ?_) (fun hc => ?_)
      · first
        | (cases hc; done)
        | (
          refine aSR (rg 2 rfl (rn (aT ?_)))
          repeat (first | refine then_ret ?_ | refine inBlock_ret ?_)
          refine rr rfl rfl ?_
          first | exact ei (fix_hit hlt hi.2 (by assumption)).symm | exact ei (fix_none (any_end hi (not_lt_len hc))).symm)
      · first
        | (cases hc; done)
        | (
          refine aK (inBlock_normal (aR (rg 2 rfl (rn (then_normal ?_)))))
          refine ⟨i + 1, ⟨hlt, any_succ hlt hi.2 (by assumption)⟩, by omega, ?_⟩
          (refine ⟨Nat.le_of_ble_eq_true rfl, ?_, ?_, ?_⟩ <;> repeat' (first | exact trivial | rfl | refine ⟨⟨?_, rfl⟩, ?_⟩ | refine ⟨⟨?_, rfl, rfl⟩, ?_⟩ | ((first | refine ei ?_ | refine eh ?_ | refine eb ?_ | refine ehb ?_ | skip); exact W_succ hlt hl))))))
  · first
    | (cases hc; done)
    | (
      refine awp_exit ?_
      repeat (first | refine then_exit ?_ | refine inBlock_other rfl ?_)
      refine inBlock_exit (aSR (rv rfl rfl (rn (aT ?_))))
      repeat (first | refine then_ret ?_ | refine inBlock_ret ?_)
      refine rr rfl rfl ?_
      first | exact ei (fix_hit hlt hi.2 (by assumption)).symm | exact ei (fix_none (any_end hi (not_lt_len hc))).symm)
end
section
attribute [local irreducible] awp aops DP PCall ACall Decidable.decide
theorem cf_c {l : List Pt} (hl : l.length ≤ maxLen) : PCall Tryz.prog 117 [.sl (rows l), .fn 118 []] (· = .bool (l.any mayN)) := by
  refine pB_ Tryz.func117 ?_
  refine aSR (rv rfl rfl (rn (aSR (rg 2 rfl (rc1 rfl rfl rfl (ixf_c hl) (rg 2 rfl (rn (aT ?_))))))))
  repeat (first | refine then_ret ?_ | refine inBlock_ret ?_)
  refine rr rfl rfl ?_
  exact eb (fix_ge _ _)
end
section
attribute [local irreducible] awp aops DP PCall ACall Decidable.decide
theorem ix_c {l : List Pt} {v : Pt} (hl : l.length ≤ maxLen) : PCall Tryz.prog 170 [.sl (rows l), .agg [.int .i64 (v).1, .int .i64 (v).2]] (· = .int .i64 (fixP (eqP v) l)) := by
  refine pB_ Tryz.func170 ?_
  refine aSR (rb rfl rfl (rv rfl rfl (rn (aS (aSR (rg 3 rfl (rn (aB ?_))))))))
  refine awp_loop (ι := Nat) (fun i => ⟨[(0, .sl (rows l)), (3, .ptr 0 0), (6, .sl (rows l)), (7, .int .i64 ((rows l).length : Int)), (8, .int .i64 (i : Int))], [(0, 0, .int .i64 v.1), (0, 1, .int .i64 v.2)], [], 1⟩) (fun i => i ≤ l.length ∧ (l.take i).any (eqP v) = false) (fun i => l.length - i) (0) (⟨Nat.zero_le _, rfl⟩) ?_ (fun _ => Nat.zero_le _) (fun i hi => ?_)
  · (refine ⟨Nat.le_of_ble_eq_true rfl, ?_, ?_, ?_⟩ <;> repeat' (first | exact trivial | rfl | refine ⟨⟨?_, rfl⟩, ?_⟩ | refine ⟨⟨?_, rfl, rfl⟩, ?_⟩ | ((first | refine ei ?_ | refine eh ?_ | refine eb ?_ | refine ehb ?_ | skip); exact W_succ hlt hl)))
  refine aSR (rv rfl rfl (rn (aS ?_)))
  refine cs_ rfl (fun hc => ?_) (fun hc => ?_)
  · first
    | (cases hc; done)
    | (
      refine aK (aS (aB (aS ?_)))
      (have hlt := lt_len hc) <;> (
      refine aR (rg 2 rfl (rn (aS (dP_ 6 Tryz.mix (dv rfl rfl (fun _ => rfl) (dv rfl rfl (fun _ => rfl) (dv rfl rfl (fun _ => rfl) (di rfl rfl rfl rfl rfl (fun _ => rfl) rfl (Int.natCast_nonneg i) (rows_i hlt) (rows_wide l) (dv rfl rfl (fun _ => rfl) (dv rfl rfl (fun _ => rfl) (dn (rn (then_normal ?_)))))))))))))
      refine cs_ rfl (fun hc => ?_) (fun hc => ?_)
      · first
        | (cases hc; done)
        | (
          refine aSR (rg 2 rfl (rn (aT ?_)))
          repeat (first | refine then_ret ?_ | refine inBlock_ret ?_)
          refine rr rfl rfl ?_
          first | exact ei (fix_hit hlt hi.2 (by first | assumption | simpa [eqP] using hc)).symm | exact ei (fix_none (any_end hi (not_lt_len hc))).symm | trace_state)
      · first
        | (cases hc; done)
        | (
          refine aK (inBlock_normal (aR (rg 2 rfl (rn (then_normal ?_)))))
          refine ⟨i + 1, ⟨hlt, any_succ hlt hi.2 (by first | assumption | simpa [eqP] using hc)⟩, by omega, ?_⟩
          (refine ⟨Nat.le_of_ble_eq_true rfl, ?_, ?_, ?_⟩ <;> repeat' (first | exact trivial | rfl | refine ⟨⟨?_, rfl⟩, ?_⟩ | refine ⟨⟨?_, rfl, rfl⟩, ?_⟩ | ((first | refine ei ?_ | refine eh ?_ | refine eb ?_ | refine ehb ?_ | skip); exact W_succ hlt hl))))))
  · first
    | (cases hc; done)
    | (
      refine awp_exit ?_
      repeat (first | refine then_exit ?_ | refine inBlock_other rfl ?_)
      refine inBlock_exit (aSR (rv rfl rfl (rn (aT ?_))))
      repeat (first | refine then_ret ?_ | refine inBlock_ret ?_)
      refine rr rfl rfl ?_
      first | exact ei (fix_hit hlt hi.2 (by first | assumption | simpa [eqP] using hc)).symm | exact ei (fix_none (any_end hi (not_lt_len hc))).symm | trace_state)
end
section
attribute [local irreducible] awp aops DP PCall ACall Decidable.decide
theorem con_c {l : List Pt} {v : Pt} (hl : l.length ≤ maxLen) : PCall Tryz.prog 121 [.sl (rows l), .agg [.int .i64 (v).1, .int .i64 (v).2]] (· = .bool (l.any (eqP v))) := by
  refine pB_ Tryz.func121 ?_
  refine aSR (rb rfl rfl (rv rfl rfl (rn (aSR (rg 2 rfl (rc1 rfl rfl rfl (ix_c hl) (rg 2 rfl (rn (aT ?_)))))))))
  repeat (first | refine then_ret ?_ | refine inBlock_ret ?_)
  refine rr rfl rfl ?_
  exact eb (fix_ge _ _)
end
end Go.Proofs.YtbkomicjhfldmaaGreatDoor
namespace Go.Proofs.YtbkomicjhfldmaaGreatDoor
open Go.Pv
set_option maxRecDepth 100000
set_option maxHeartbeats 4000000
set_option linter.unusedSimpArgs false
set_option linter.unusedVariables false
set_option linter.unusedSectionVars false
theorem len3 {l : List Pt} (h : decide (((rows l).length : Int) < 3) = true) : AV.bool false = AV.bool (simpB l) := by
  rw [simpB_no]; intro hs; have := hs.n3; rw [rows_len] at h; simp at h; omega
theorem len64 {l : List Pt} (h : decide (((rows l).length : Int) > 64) = true) : AV.bool false = AV.bool (simpB l) := by
  rw [simpB_no]; intro hs; have := hs.n64; rw [rows_len] at h; simp at h; omega
theorem notMay {l : List Pt} (h : l.any mayN = true) : AV.bool false = AV.bool (simpB l) := by
  rw [simpB_no]; intro hs; rw [any_mayN, Bool.not_eq_true', ← Bool.not_eq_true] at h; exact h (List.all_eq_true.2 hs.may)
def base (l : List Pt) : Prop := 3 ≤ l.length ∧ l.length ≤ 64 ∧ l.all my = true
theorem base_of {l : List Pt} (h1 : decide (((rows l).length : Int) < 3) = false) (h2 : decide (((rows l).length : Int) > 64) = false) (h3 : l.any mayN = false) : base l := by
  rw [rows_len] at h1 h2; rw [any_mayN] at h3; simp at h1 h2
  exact ⟨by omega, by omega, by simpa using h3⟩
theorem take_rows (l : List Pt) (i : Nat) : ((rows l).take i).drop 0 = rows (l.take i) := by simp [rows, List.map_take]
def okC (l : List Pt) (i j : Nat) : Prop := (j + 1) % l.length = i ∨ crI l i j = false
def okK (l : List Pt) (i k : Nat) : Prop := i + 2 ≤ k ∧ ∀ j, i + 2 ≤ j → j < k → j < l.length → okC l i j
def okJ (l : List Pt) (j : Nat) : Prop := nbI l j = false ∧ (l.take j).any (eqP (gp l j)) = false ∧ ∀ k, j + 2 ≤ k → k < l.length → okC l j k
def okIt (l : List Pt) (i : Nat) : Prop := i ≤ l.length ∧ ∀ j, j < i → okJ l j
theorem okK_0 (l : List Pt) (i : Nat) : okK l i (i + 2) := ⟨Nat.le_refl _, fun j h1 h2 => by omega⟩
theorem okK_step {l : List Pt} {i k : Nat} (h : okK l i k) (hc : okC l i k) : okK l i (k + 1) :=
  ⟨by have := h.1; omega, fun j h1 h2 h3 => by
    by_cases e : j = k
    · subst e; exact hc
    · exact h.2 j h1 (by omega) h3⟩
theorem okI_step {l : List Pt} {i k : Nat} (h : okIt l i) (hl : i < l.length) (h1 : nbI l i = false) (h2 : (l.take i).any (eqP (gp l i)) = false) (hk : okK l i k) (he : ¬ k < l.length) : okIt l (i + 1) :=
  ⟨hl, fun j hj => by
    by_cases e : j = i
    · subst e; exact ⟨h1, h2, fun m a b => hk.2 m a (by omega) b⟩
    · exact h.2 j (by omega)⟩
theorem nodup_any {l : List Pt} (h : ∀ j, j < l.length → (l.take j).any (eqP (gp l j)) = false) : l.Nodup := nodup_of fun i hi hm => by
  have := h i hi
  rw [List.any_eq_false] at this
  refine this _ hm ?_
  rw [gp_lt hi, eqP_iff]
theorem okI_end {l : List Pt} {i : Nat} (hb : base l) (h : okIt l i) (he : ¬ i < l.length) : AV.bool true = AV.bool (simpB l) := by
  have e : i = l.length := by have := h.1; omega
  subst e
  have : simpB l = true := (simpB_iff l).2 (simp_of hb.1 hb.2.1 (List.all_eq_true.1 hb.2.2) (nodup_any fun j hj => (h.2 j hj).2.1) (fun i hi => (h.2 i hi).1) fun i k h1 h2 h3 => by
    rcases (h.2 i (by omega)).2.2 k h1 h2 with h | h
    · exact absurd h h3
    · exact h)
  rw [this]
theorem nb_bad {l : List Pt} {i : Nat} (hl : i < l.length) (h : nbI l i = true) : AV.bool false = AV.bool (simpB l) := by
  rw [simpB_no]; intro hs; rw [hs.nbI hl] at h; cases h
theorem con_bad {l : List Pt} {i : Nat} (hl : i < l.length) (h : (l.take i).any (eqP (gp l i)) = true) : AV.bool false = AV.bool (simpB l) := by
  rw [simpB_no]; intro hs
  obtain ⟨x, hx, he⟩ := List.any_eq_true.1 h
  rw [eqP_iff] at he
  subst he
  rw [gp_lt hl] at hx
  exact nodup_take hs.nd i hl hx
theorem cr_bad {l : List Pt} {i k : Nat} (hl : i < l.length) (hk : k < l.length) (hik : i + 2 ≤ k) (hn : ((((k + 1) % l.length : Nat) : Int) != (i : Int)) = true) (h : crI l i k = true) : AV.bool false = AV.bool (simpB l) := by
  rw [simpB_no]; intro hs
  have hn' : (k + 1) % l.length ≠ i := fun e => by rw [e] at hn; simp at hn
  rw [hs.crI hl hk (by omega) (by rw [Nat.mod_eq_of_lt (by omega)]; omega) (Ne.symm hn')] at h; cases h
theorem ne_mod {l : List Pt} {i k : Nat} (hn : ((((k + 1) % l.length : Nat) : Int) != (i : Int)) = false) : okC l i k := .inl (Int.ofNat.inj (bne_eq_false_iff_eq.1 hn))
theorem tk_len {l : List Pt} {i : Nat} (h : l.length ≤ maxLen) : (l.take i).length ≤ maxLen := by rw [List.length_take]; omega
section
attribute [local irreducible] awp aops DP PCall ACall Decidable.decide
theorem simple_c {l : List Pt} (hl : l.length ≤ maxLen) : PCall Tryz.prog 76 [.sl (rows l)] (· = .bool (simpB l)) := by
  refine pB_ Tryz.func76 ?_
  refine aSR (rv rfl rfl (rn (aS (aSR (rg 4 rfl ?_)))))
  (iterate 3 all_goals (first | refine gy_ (rv rfl rfl ?_) | refine gn_ ?_ | refine gu_ ?_ | refine gs rfl rfl rfl rfl rfl (fun hg => rv rfl rfl ?_) fun hg => ?_)) <;> (
  refine rg 2 rfl ?_
  ((first | refine gy_ (rv rfl rfl ?_) | refine gn_ ?_ | refine gu_ ?_ | refine gs rfl rfl rfl rfl rfl (fun hg => rv rfl rfl ?_) fun hg => ?_)) <;> (
  (first | refine gy_ (rc1 rfl rfl rfl (cf_c hl) (?_)) | refine gn_ ?_ | refine gu_ ?_ | refine gs rfl rfl rfl rfl rfl (fun hg => rc1 rfl rfl rfl (cf_c hl) (?_)) fun hg => ?_) <;> (
  refine rv rfl rfl (rn (then_normal ?_))
  refine cs_ rfl (fun hc => ?_) (fun hc => ?_)
  · first
    | (cases hc; done)
    | (
      refine aSR (rv rfl rfl (rn (aT ?_)))
      repeat (first | refine then_ret ?_ | refine inBlock_ret ?_)
      refine rr rfl rfl ?_
      first | exact len3 (by assumption) | exact len64 (by assumption) | exact notMay (by assumption) | exact cr_bad hlt hkl hk.1 (by assumption) (by assumption) | exact nb_bad hlt (by assumption) | exact con_bad hlt (by assumption) | exact okI_end hb hi (not_lt_len hc) | trace_state)
  · first
    | (cases hc; done)
    | (
      refine aK (aS (aS ?_))
      (have hb := base_of (by assumption) (by assumption) (by assumption)) <;> (
      refine aR (rg 3 rfl (rn (aB ?_)))
      refine awp_loop (ι := Nat) (fun i => ⟨[(0, .sl (rows l)), (2, .bool false), (18, .sl (rows l)), (19, .int .i64 ((rows l).length : Int)), (20, .int .i64 (i : Int))], [], [], 0⟩) (fun i => okIt l i) (fun i => l.length - i) (0) (⟨Nat.zero_le _, fun j hj => by omega⟩) ?_ (fun _ => Nat.zero_le _) (fun i hi => ?_)
      · (refine ⟨Nat.le_of_ble_eq_true rfl, ?_, ?_, ?_⟩ <;> repeat' (first | exact trivial | rfl | refine ⟨⟨?_, rfl⟩, ?_⟩ | refine ⟨⟨?_, rfl, rfl⟩, ?_⟩ | ((first | refine ei ?_ | refine eh ?_ | refine eb ?_ | refine ehb ?_ | skip); exact W_succ hlt hl)))
      refine aSR (rv rfl rfl (rn (aS ?_)))
      refine cs_ rfl (fun hc => ?_) (fun hc => ?_)
      · first
        | (cases hc; done)
        | (
          refine aK (aS (aB (aS ?_)))
          (have hlt := lt_len hc) <;> (
          refine aR (rv rfl rfl (ri rfl rfl rfl rfl rfl rfl (Int.natCast_nonneg i) (rows_i hlt) (rows_wide l) (rv rfl rfl (ra rfl rfl rfl (rv rfl rfl (rs rfl rfl rfl rfl rfl rfl rfl (rn (aS (aS (dP_ 16 Tryz.mix (dv rfl rfl (fun _ => rfl) (dv rfl rfl (fun _ => rfl) (dv rfl rfl (fun _ => rfl) (dc rfl rfl rfl rfl (fun _ => rfl) (fun _ => (next_c (by omega) (by have := hb.2.1; unfold maxLen; omega))) (dv rfl rfl (fun _ => rfl) (dv rfl rfl (fun _ => rfl) (dv' rfl rfl (fun _ => ov_eq rfl (W_sm (k := 1) (by have := hb.2.1; unfold maxLen; omega))) (dc rfl rfl rfl rfl (fun _ => rfl) (fun _ => (next_c (by omega) (by have := hb.2.1; unfold maxLen; omega))) (dc rfl rfl rfl rfl (fun _ => rfl) (fun _ => neigh_c) (dv rfl rfl (fun _ => rfl) ?_))))))))))))))))))))
          (first | refine dv rfl rfl (fun _ => rfl) ?_ | refine dno rfl rfl ?_ | (refine ds rfl rfl (fun hg => ?_) (fun hg => ?_) <;> first | refine dv rfl rfl (fun _ => rfl) ?_ | refine dno rfl rfl ?_)) <;> (
          (first | refine dv rfl rfl (fun _ => rfl) ?_ | refine dno rfl rfl ?_ | (refine ds rfl rfl (fun hg => ?_) (fun hg => ?_) <;> first | refine dv rfl rfl (fun _ => rfl) ?_ | refine dno rfl rfl ?_)) <;> (
          (first | refine dV rfl rfl (fun m => va_eq (va_sub (l := 0) (h := i) rfl rfl rfl rfl rfl ⟨_, rfl⟩ (Nat.zero_le _) (by rw [rows_len]; omega) (rows_wide l)) (esl (take_rows l i))) ?_ | refine dno rfl rfl ?_ | (refine ds rfl rfl (fun hg => ?_) (fun hg => ?_) <;> first | refine dV rfl rfl (fun m => va_eq (va_sub (l := 0) (h := i) rfl rfl rfl rfl rfl ⟨_, rfl⟩ (Nat.zero_le _) (by rw [rows_len]; omega) (rows_wide l)) (esl (take_rows l i))) ?_ | refine dno rfl rfl ?_)) <;> (
          (first | refine dv rfl rfl (fun _ => rfl) ?_ | refine dno rfl rfl ?_ | (refine ds rfl rfl (fun hg => ?_) (fun hg => ?_) <;> first | refine dv rfl rfl (fun _ => rfl) ?_ | refine dno rfl rfl ?_)) <;> (
          (first | refine dc rfl rfl rfl rfl (fun _ => rfl) (fun _ => (con_c (tk_len hl))) ?_ | refine dno rfl rfl ?_ | (refine ds rfl rfl (fun hg => ?_) (fun hg => ?_) <;> first | refine dc rfl rfl rfl rfl (fun _ => rfl) (fun _ => (con_c (tk_len hl))) ?_ | refine dno rfl rfl ?_)) <;> (
          refine dv rfl rfl (fun _ => rfl) (dn (rn (then_normal ?_)))
          refine cs_ rfl (fun hc => ?_) (fun hc => ?_)
          · first
            | (cases hc; done)
            | (
              refine aSR (rv rfl rfl (rn (aT ?_)))
              repeat (first | refine then_ret ?_ | refine inBlock_ret ?_)
              refine rr rfl rfl ?_
              first | exact len3 (by assumption) | exact len64 (by assumption) | exact notMay (by assumption) | exact cr_bad hlt hkl hk.1 (by assumption) (by assumption) | exact nb_bad hlt (by assumption) | exact con_bad hlt (by assumption) | exact okI_end hb hi (not_lt_len hc) | trace_state)
          · first
            | (cases hc; done)
            | (
              refine aK (aS ?_)
              (have hnb : nbI l i = false := (by assumption); have hcn : (l.take i).any (eqP (gp l i)) = false := (by assumption)) <;> (
              refine aR (rv rfl rfl (rv' rfl (ov_eq rfl (W_sm (k := 2) (by have := hb.2.1; unfold maxLen; omega))) (rv rfl rfl (rn (aB ?_)))))
              refine awp_loop (ι := Nat) (fun k => ⟨[(0, .sl (rows l)), (2, .bool false), (3, .int .i64 (i : Int)), (4, .ptr 0 0), (5, .int .i64 (k : Int)), (18, .sl (rows l)), (19, .int .i64 ((rows l).length : Int)), (20, .int .i64 (i : Int))], [(0, 0, .int .i64 (gp l i).1), (0, 1, .int .i64 (gp l i).2)], [], 1⟩) (fun k => okK l i k) (fun k => l.length - k) ((i + 2)) (okK_0 l i) ?_ (fun _ => Nat.zero_le _) (fun k hk => ?_)
              · (refine ⟨Nat.le_of_ble_eq_true rfl, ?_, ?_, ?_⟩ <;> repeat' (first | exact trivial | rfl | refine ⟨⟨?_, rfl⟩, ?_⟩ | refine ⟨⟨?_, rfl, rfl⟩, ?_⟩ | ((first | refine ei ?_ | refine eh ?_ | refine eb ?_ | refine ehb ?_ | skip); exact W_succ hkl hl)))
              refine aS (aSR (rg 4 rfl (rn (then_normal ?_))))
              refine cs_ rfl (fun hc => ?_) (fun hc => ?_)
              · first
                | (cases hc; done)
                | (
                  refine aK (aS (aB (aS ?_)))
                  (have hkl := lt_len hc) <;> (
                  refine dP_ 21 Tryz.mix (dv rfl rfl (fun _ => rfl) (dv' rfl rfl (fun _ => ov_eq rfl (W_sm (k := 1) (by have := hb.2.1; unfold maxLen; omega))) (dv rfl rfl (fun _ => rfl) (dv rfl rfl (fun _ => rfl) (dv' rfl rfl (fun _ => ov_rem rfl rfl (len_ne (by omega)) (tmod_rows l (k + 1))) (dv rfl rfl (fun _ => rfl) (dv rfl rfl (fun _ => rfl) (dv rfl rfl (fun _ => rfl) ?_))))))))
                  (first | refine dv rfl rfl (fun _ => rfl) ?_ | refine dno rfl rfl ?_ | (refine ds rfl rfl (fun hg => ?_) (fun hg => ?_) <;> first | refine dv rfl rfl (fun _ => rfl) ?_ | refine dno rfl rfl ?_)) <;> (
                  (first | refine dv rfl rfl (fun _ => rfl) ?_ | refine dno rfl rfl ?_ | (refine ds rfl rfl (fun hg => ?_) (fun hg => ?_) <;> first | refine dv rfl rfl (fun _ => rfl) ?_ | refine dno rfl rfl ?_)) <;> (
                  (first | refine dv rfl rfl (fun _ => rfl) ?_ | refine dno rfl rfl ?_ | (refine ds rfl rfl (fun hg => ?_) (fun hg => ?_) <;> first | refine dv rfl rfl (fun _ => rfl) ?_ | refine dno rfl rfl ?_)) <;> (
                  (first | refine dc rfl rfl rfl rfl (fun _ => rfl) (fun _ => (next_c (by omega) (by have := hb.2.1; unfold maxLen; omega))) ?_ | refine dno rfl rfl ?_ | (refine ds rfl rfl (fun hg => ?_) (fun hg => ?_) <;> first | refine dc rfl rfl rfl rfl (fun _ => rfl) (fun _ => (next_c (by omega) (by have := hb.2.1; unfold maxLen; omega))) ?_ | refine dno rfl rfl ?_)) <;> (
                  (first | refine dv rfl rfl (fun _ => rfl) ?_ | refine dno rfl rfl ?_ | (refine ds rfl rfl (fun hg => ?_) (fun hg => ?_) <;> first | refine dv rfl rfl (fun _ => rfl) ?_ | refine dno rfl rfl ?_)) <;> (
                  (first | refine dv rfl rfl (fun _ => rfl) ?_ | refine dno rfl rfl ?_ | (refine ds rfl rfl (fun hg => ?_) (fun hg => ?_) <;> first | refine dv rfl rfl (fun _ => rfl) ?_ | refine dno rfl rfl ?_)) <;> (
                  (first | refine di rfl rfl rfl rfl rfl (fun _ => rfl) rfl (Int.natCast_nonneg _) (rows_i hkl) (rows_wide l) ?_ | refine dno rfl rfl ?_ | (refine ds rfl rfl (fun hg => ?_) (fun hg => ?_) <;> first | refine di rfl rfl rfl rfl rfl (fun _ => rfl) rfl (Int.natCast_nonneg _) (rows_i hkl) (rows_wide l) ?_ | refine dno rfl rfl ?_)) <;> (
                  (first | refine dv rfl rfl (fun _ => rfl) ?_ | refine dno rfl rfl ?_ | (refine ds rfl rfl (fun hg => ?_) (fun hg => ?_) <;> first | refine dv rfl rfl (fun _ => rfl) ?_ | refine dno rfl rfl ?_)) <;> (
                  (first | refine dv rfl rfl (fun _ => rfl) ?_ | refine dno rfl rfl ?_ | (refine ds rfl rfl (fun hg => ?_) (fun hg => ?_) <;> first | refine dv rfl rfl (fun _ => rfl) ?_ | refine dno rfl rfl ?_)) <;> (
                  (first | refine dv rfl rfl (fun _ => rfl) ?_ | refine dno rfl rfl ?_ | (refine ds rfl rfl (fun hg => ?_) (fun hg => ?_) <;> first | refine dv rfl rfl (fun _ => rfl) ?_ | refine dno rfl rfl ?_)) <;> (
                  (first | refine dc rfl rfl rfl rfl (fun _ => rfl) (fun _ => (next_c (by omega) (by have := hb.2.1; unfold maxLen; omega))) ?_ | refine dno rfl rfl ?_ | (refine ds rfl rfl (fun hg => ?_) (fun hg => ?_) <;> first | refine dc rfl rfl rfl rfl (fun _ => rfl) (fun _ => (next_c (by omega) (by have := hb.2.1; unfold maxLen; omega))) ?_ | refine dno rfl rfl ?_)) <;> (
                  (first | refine dc rfl rfl rfl rfl (fun _ => rfl) (fun _ => cross_c) ?_ | refine dno rfl rfl ?_ | (refine ds rfl rfl (fun hg => ?_) (fun hg => ?_) <;> first | refine dc rfl rfl rfl rfl (fun _ => rfl) (fun _ => cross_c) ?_ | refine dno rfl rfl ?_)) <;> (
                  refine dv rfl rfl (fun _ => rfl) (dn (rn (then_normal ?_)))
                  refine cs_ rfl (fun hc => ?_) (fun hc => ?_)
                  · first
                    | (cases hc; done)
                    | (
                      refine aSR (rv rfl rfl (rn (aT ?_)))
                      repeat (first | refine then_ret ?_ | refine inBlock_ret ?_)
                      refine rr rfl rfl ?_
                      first | exact len3 (by assumption) | exact len64 (by assumption) | exact notMay (by assumption) | exact cr_bad hlt hkl hk.1 (by assumption) (by assumption) | exact nb_bad hlt (by assumption) | exact con_bad hlt (by assumption) | exact okI_end hb hi (not_lt_len hc) | trace_state)
                  · first
                    | (cases hc; done)
                    | (
                      refine aK (inBlock_normal (aR (rg 3 rfl (rn (then_normal ?_)))))
                      refine ⟨k + 1, okK_step hk (by first | exact ne_mod (by assumption) | exact .inr (by assumption)), by omega, ?_⟩
                      (refine ⟨Nat.le_of_ble_eq_true rfl, ?_, ?_, ?_⟩ <;> repeat' (first | exact trivial | rfl | refine ⟨⟨?_, rfl⟩, ?_⟩ | refine ⟨⟨?_, rfl, rfl⟩, ?_⟩ | ((first | refine ei ?_ | refine eh ?_ | refine eb ?_ | refine ehb ?_ | skip); exact W_succ hkl hl))))))))))))))))))
              · first
                | (cases hc; done)
                | (
                  refine awp_exit ?_
                  repeat (first | refine then_exit ?_ | refine inBlock_other rfl ?_)
                  refine inBlock_exit (inBlock_normal (aR (rg 2 rfl (rn (then_normal ?_)))))
                  refine ⟨i + 1, okI_step hi hlt hnb hcn hk (not_lt_len hc), by omega, ?_⟩
                  (refine ⟨Nat.le_of_ble_eq_true rfl, ?_, ?_, ?_⟩ <;> repeat' (first | exact trivial | rfl | refine ⟨⟨?_, rfl⟩, ?_⟩ | refine ⟨⟨?_, rfl, rfl⟩, ?_⟩ | ((first | refine ei ?_ | refine eh ?_ | refine eb ?_ | refine ehb ?_ | skip); exact W_succ hlt hl)))))))))))))
      · first
        | (cases hc; done)
        | (
          refine awp_exit ?_
          repeat (first | refine then_exit ?_ | refine inBlock_other rfl ?_)
          refine inBlock_exit (aSR (rv rfl rfl (rn (aT ?_))))
          repeat (first | refine then_ret ?_ | refine inBlock_ret ?_)
          refine rr rfl rfl ?_
          first | exact len3 (by assumption) | exact len64 (by assumption) | exact notMay (by assumption) | exact cr_bad hlt hkl hk.1 (by assumption) (by assumption) | exact nb_bad hlt (by assumption) | exact con_bad hlt (by assumption) | exact okI_end hb hi (not_lt_len hc) | trace_state))))))
end
end Go.Proofs.YtbkomicjhfldmaaGreatDoor
namespace Go.Proofs.YtbkomicjhfldmaaGreatDoor
open Go.Pv
set_option maxRecDepth 100000
set_option maxHeartbeats 4000000
set_option linter.unusedSimpArgs false
set_option linter.unusedVariables false
set_option linter.unusedSectionVars false
def par (l : List Pt) (p : Pt) (i : Nat) : Bool := decide (cnt p ((edges l).take i) % 2 = 1)
theorem edges_succ {l : List Pt} {i : Nat} (h : i < l.length) : (edges l).take (i + 1) = (edges l).take i ++ [(gp l i, gp l (i + 1))] := by
  rw [List.take_add_one, edges_get h]; rfl
theorem edges_all (l : List Pt) {i : Nat} (h : i ≤ l.length) (hn : ¬ i < l.length) : (edges l).take i = edges l := by
  rw [List.take_of_length_le]; rw [edges_len]; omega
theorem par_0 (l : List Pt) (p : Pt) : par l p 0 = false := by simp [par, cnt]
theorem par_no {l : List Pt} {p : Pt} {i : Nat} (h : i < l.length) (ht : tog p (gp l i, gp l (i + 1)) = false) : par l p (i + 1) = par l p i := by
  unfold par cnt; rw [edges_succ h, List.countP_append]; simp [ht]
theorem par_yes {l : List Pt} {p : Pt} {i : Nat} (h : i < l.length) (ht : tog p (gp l i, gp l (i + 1)) = true) : par l p (i + 1) = !par l p i := by
  unfold par cnt; rw [edges_succ h, List.countP_append]; simp only [List.countP_cons, List.countP_nil, ht, if_pos]
  rw [Bool.eq_iff_iff]; simp; omega
theorem tog_1 {a b p : Pt} (h : (decide (a.2 > p.2) == decide (b.2 > p.2)) = true) : tog p (a, b) = false := by
  unfold tog; simp only [bne, h]; rfl
theorem tog_2 {a b p : Pt} {u : Bool} (h : (decide (a.2 > p.2) == decide (b.2 > p.2)) = false) (k : (decide (b.2 > a.2) == decide (turnV a.1 a.2 b.1 b.2 p.1 p.2 > 0)) = u) : tog p (a, b) = u := by
  unfold tog tn; simp only [bne, h, k]; cases u <;> rfl
def onE (p : Pt) (e : Pt × Pt) : Bool := on e.1 e.2 p
def noOn (l : List Pt) (p : Pt) (i : Nat) : Prop := i ≤ l.length ∧ ((edges l).take i).any (onE p) = false
theorem noOn_0 (l : List Pt) (p : Pt) : noOn l p 0 := ⟨Nat.zero_le _, by simp⟩
theorem noOn_step {l : List Pt} {p : Pt} {i : Nat} (h : noOn l p i) (hl : i < l.length) (hn : onV (gp l i).1 (gp l i).2 (gp l (i + 1)).1 (gp l (i + 1)).2 p.1 p.2 = false) : noOn l p (i + 1) :=
  ⟨hl, by rw [edges_succ hl, List.any_append, h.2]; simp [onE, on, hn]⟩
theorem in_on {l : List Pt} {p : Pt} {i : Nat} (hl : i < l.length) (h : onV (gp l i).1 (gp l i).2 (gp l (i + 1)).1 (gp l (i + 1)).2 p.1 p.2 = true) : AV.bool true = AV.bool (inE l p) := by
  have : (edges l).any (fun e => on e.1 e.2 p) = true := List.any_eq_true.2 ⟨_, ix_edge hl, h⟩
  unfold inE; rw [this]; rfl
theorem in_end {l : List Pt} {p : Pt} {i : Nat} (hi : noOn l p i) (hn : ¬ i < l.length) : par l p i = inE l p := by
  have h2 : (edges l).any (fun e => on e.1 e.2 p) = false := by rw [← edges_all l hi.1 hn]; exact hi.2
  unfold inE par; rw [h2, edges_all l hi.1 hn]; rfl
def mvW (d p : Pt) : Pt := (W (p.1 + d.1), W (p.2 + d.2))
def addA (d : Pt) (p : Pt) : Bool := addB p.1 p.2 d.1 d.2
theorem mvW_eq {d p : Pt} (h : addA d p = true) : mvW d p = mv d p ∧ my (mv d p) = true := by
  obtain ⟨_, _, e1, e2, m⟩ := may_add h
  unfold mvW mv
  rw [e1, e2]; exact ⟨rfl, m⟩
def moveT (l : List Pt) (d : Pt) : AV := match simpB l, l.all (addA d) with
  | true, true => .tup [.sl (rows (l.map (mvW d))), .nilI]
  | true, false => .tup [.sl [], .iface 55 (.int .i64 11)]
  | false, _ => .tup [.sl [], .iface 55 (.int .i64 1)]
theorem pr_plain (x y : Int) : Plain 2 [[AV.int .i64 x, .int .i64 y]] := fun r hr => by
  obtain rfl : r = [AV.int .i64 x, .int .i64 y] := by simpa using hr
  exact ⟨rfl, rfl, rfl⟩
def allA (l : List Pt) (d : Pt) (i : Nat) : Prop := i ≤ l.length ∧ (l.take i).all (addA d) = true
theorem allA_step {l : List Pt} {d : Pt} {i : Nat} (h : allA l d i) (hl : i < l.length) (ha : addB (gp l i).1 (gp l i).2 d.1 d.2 = true) : allA l d (i + 1) :=
  ⟨hl, by rw [List.take_add_one, List.getElem?_eq_getElem hl, List.all_append, h.2]; rw [gp_lt hl] at ha; simp [addA, ha]⟩
theorem mv_1 {l : List Pt} {d : Pt} (h : (!simpB l) = true) : AV.tup [.sl [], .iface 55 (.int .i64 1)] = moveT l d := by
  unfold moveT; rw [show simpB l = false by simpa using h]
theorem mv_2 {l : List Pt} {d : Pt} {i : Nat} (h : (!simpB l) = false) (hl : i < l.length) (ha : addB (gp l i).1 (gp l i).2 d.1 d.2 = false) : AV.tup [.sl [], .iface 55 (.int .i64 11)] = moveT l d := by
  have : l.all (addA d) = false := by
    rw [Bool.eq_false_iff]; intro h2
    have := List.all_eq_true.1 h2 _ (gp_mem (by omega) i)
    unfold addA at this; rw [ha] at this; cases this
  unfold moveT; rw [show simpB l = true by simpa using h, this]
theorem mv_3 {l : List Pt} {d : Pt} {i : Nat} (h : (!simpB l) = false) (hi : allA l d i) (hn : ¬ i < l.length) : AV.tup [.sl (rows ((l.take i).map (mvW d))), .nilI] = moveT l d := by
  have e : i = l.length := by have := hi.1; omega
  subst e
  have := hi.2
  rw [List.take_length] at this ⊢
  unfold moveT; rw [show simpB l = true by simpa using h, this]
theorem mv_succ {l : List Pt} {d : Pt} {i : Nat} (hl : i < l.length) : rows ((l.take i).map (mvW d)) ++ [[AV.int .i64 (W ((gp l i).1 + d.1)), .int .i64 (W ((gp l i).2 + d.2))]] = rows ((l.take (i + 1)).map (mvW d)) := by
  rw [List.take_add_one, List.getElem?_eq_getElem hl, gp_lt hl]; simp only [rows, List.map_append]; rfl
section
attribute [local irreducible] awp aops DP PCall ACall Decidable.decide Nat.mod onV turnV par inE noOn
theorem in_c {l : List Pt} {p : Pt} (hl : l.length ≤ maxLen) : PCall Tryz.prog 100 [.sl (rows l), .agg [.int .i64 (p).1, .int .i64 (p).2]] (· = .bool (inE l p)) := by
  refine pB_ Tryz.func100 ?_
  refine aSR (rb rfl rfl (rv rfl rfl (rn (aSR (rv rfl rfl (rn (aS (aSR (rg 3 rfl (rn (aB ?_)))))))))))
  refine awp_loop (ι := Nat) (fun i => ⟨[(0, .sl (rows l)), (3, .ptr 0 0), (4, .bool false), (5, .bool (par l p i)), (10, .sl (rows l)), (11, .int .i64 ((rows l).length : Int)), (12, .int .i64 (i : Int))], [(0, 0, .int .i64 p.1), (0, 1, .int .i64 p.2)], [], 1⟩) (fun i => noOn l p i) (fun i => l.length - i) (0) (noOn_0 l p) ?_ (fun _ => Nat.zero_le _) (fun i hi => ?_)
  · (refine ⟨Nat.le_of_ble_eq_true rfl, ?_, ?_, ?_⟩ <;> repeat' (first | exact trivial | rfl | refine ⟨⟨?_, rfl⟩, ?_⟩ | refine ⟨⟨?_, rfl, rfl⟩, ?_⟩ | ((first | refine ei ?_ | refine eh ?_ | refine eb ?_ | refine ehb ?_ | skip); exact (par_0 l p).symm)))
  refine aSR (rv rfl rfl (rn (aS ?_)))
  refine cs_ rfl (fun hc => ?_) (fun hc => ?_)
  · first
    | (cases hc; done)
    | (
      refine aK (aS (aB (aS ?_)))
      (have hlt := lt_len hc) <;> (
      refine aR (rv rfl rfl (ri rfl rfl rfl rfl rfl rfl (Int.natCast_nonneg _) (rows_i hlt) (rows_wide l) (rv rfl rfl (ra rfl rfl rfl (rv rfl rfl (rs rfl rfl rfl rfl rfl rfl rfl (rn (aSR (rg 2 rfl (rc1 rfl rfl rfl (next_c (by omega) (by omega)) (ra rfl rfl rfl (rs rfl rfl rfl rfl rfl rfl rfl (rn (aS (aSR (rg 3 rfl (rc1 rfl rfl rfl on_c (rn (then_normal ?_)))))))))))))))))))
      refine cs_ rfl (fun hc => ?_) (fun hc => ?_)
      · first
        | (cases hc; done)
        | (
          refine aSR (rv rfl rfl (rn (aT ?_)))
          repeat (first | refine then_ret ?_ | refine inBlock_ret ?_)
          refine rr rfl rfl ?_
          first | exact in_on hlt (by assumption) | exact eb (in_end hi (not_lt_len hc)) | trace_state)
      · first
        | (cases hc; done)
        | (
          refine aK (aS (aSR (rg 11 rfl (rn (then_normal ?_)))))
          refine cs_ rfl (fun hc => ?_) (fun hc => ?_)
          · first
            | (cases hc; done)
            | (
              refine awp_exit ?_
              repeat (first | refine then_exit ?_ | refine inBlock_other rfl ?_)
              refine inBlock_exit (aR (rg 2 rfl (rn (then_normal ?_))))
              refine ⟨i + 1, noOn_step hi hlt (by assumption), by omega, ?_⟩
              (refine ⟨Nat.le_of_ble_eq_true rfl, ?_, ?_, ?_⟩ <;> repeat' (first | exact trivial | rfl | refine ⟨⟨?_, rfl⟩, ?_⟩ | refine ⟨⟨?_, rfl, rfl⟩, ?_⟩ | ((first | refine ei ?_ | refine eh ?_ | refine eb ?_ | refine ehb ?_ | skip); first | exact W_succ hlt hl | exact (par_no hlt (tog_1 (by assumption))).symm | exact (par_no hlt (tog_2 (by assumption) (by assumption))).symm | exact (par_yes hlt (tog_2 (by assumption) (by assumption))).symm))))
          · first
            | (cases hc; done)
            | (
              refine aK (aSR (rg 6 rfl (rn (aSR (rg 4 rfl (rc1 rfl rfl rfl turn_c (rg 2 rfl (rn (then_normal ?_)))))))))
              refine cs_ rfl (fun hc => ?_) (fun hc => ?_)
              · first
                | (cases hc; done)
                | (
                  refine aR (rg 3 rfl (rn (inBlock_normal (aR (rg 2 rfl (rn (then_normal ?_)))))))
                  refine ⟨i + 1, noOn_step hi hlt (by assumption), by omega, ?_⟩
                  (refine ⟨Nat.le_of_ble_eq_true rfl, ?_, ?_, ?_⟩ <;> repeat' (first | exact trivial | rfl | refine ⟨⟨?_, rfl⟩, ?_⟩ | refine ⟨⟨?_, rfl, rfl⟩, ?_⟩ | ((first | refine ei ?_ | refine eh ?_ | refine eb ?_ | refine ehb ?_ | skip); first | exact W_succ hlt hl | exact (par_no hlt (tog_1 (by assumption))).symm | exact (par_no hlt (tog_2 (by assumption) (by assumption))).symm | exact (par_yes hlt (tog_2 (by assumption) (by assumption))).symm))))
              · first
                | (cases hc; done)
                | (
                  refine aK (inBlock_normal (aR (rg 2 rfl (rn (then_normal ?_)))))
                  refine ⟨i + 1, noOn_step hi hlt (by assumption), by omega, ?_⟩
                  (refine ⟨Nat.le_of_ble_eq_true rfl, ?_, ?_, ?_⟩ <;> repeat' (first | exact trivial | rfl | refine ⟨⟨?_, rfl⟩, ?_⟩ | refine ⟨⟨?_, rfl, rfl⟩, ?_⟩ | ((first | refine ei ?_ | refine eh ?_ | refine eb ?_ | refine ehb ?_ | skip); first | exact W_succ hlt hl | exact (par_no hlt (tog_1 (by assumption))).symm | exact (par_no hlt (tog_2 (by assumption) (by assumption))).symm | exact (par_yes hlt (tog_2 (by assumption) (by assumption))).symm))))))))
  · first
    | (cases hc; done)
    | (
      refine awp_exit ?_
      repeat (first | refine then_exit ?_ | refine inBlock_other rfl ?_)
      refine inBlock_exit (aSR (rg 2 rfl (rn (aT ?_))))
      repeat (first | refine then_ret ?_ | refine inBlock_ret ?_)
      refine rr rfl rfl ?_
      first | exact in_on hlt (by assumption) | exact eb (in_end hi (not_lt_len hc)) | trace_state)
end
section
attribute [local irreducible] awp aops DP PCall ACall Decidable.decide Nat.mod simpB addB moveT
theorem move_c {l : List Pt} {d : Pt} (hl : l.length ≤ maxLen) : PCall Tryz.prog 86 [.sl (rows l), .agg [.int .i64 (d).1, .int .i64 (d).2]] (· = moveT l d) := by
  refine pB_ Tryz.func86 ?_
  refine aSR (rb rfl rfl (rg 2 rfl (rn (aS (aSR (rv rfl rfl (rc1 rfl rfl rfl (simple_c hl) (rv rfl rfl (rn (then_normal ?_))))))))))
  refine cs_ rfl (fun hc => ?_) (fun hc => ?_)
  · first
    | (cases hc; done)
    | (
      refine aSR (rg 3 rfl (rn (aT ?_)))
      repeat (first | refine then_ret ?_ | refine inBlock_ret ?_)
      refine rr rfl rfl ?_
      first | exact mv_1 (by assumption) | exact mv_2 hsb hlt hb | exact mv_3 hsb hi (not_lt_len hc) | trace_state)
  · first
    | (cases hc; done)
    | (
      refine aK (aSR (rv rfl rfl (rn (aS (aS ?_)))))
      (have h64 := ((simpB_iff l).1 (by simpa using hc)).n64; have hsb := hc) <;> (
      refine aR (rg 3 rfl (rn (aB (awp_conv (fun _ _ _ _ _ hi => nilS_slot false 2 6 rfl hi) ?_))))
      refine awp_loopR (ι := Nat) (fun i => ⟨[(0, .sl (rows l)), (3, .ptr 0 0), (6, .own 1), (15, .sl (rows l)), (16, .int .i64 ((rows l).length : Int)), (17, .int .i64 (i : Int))], [(0, 0, .int .i64 d.1), (0, 1, .int .i64 d.2)], [(1, .row 2 (rows ((l.take i).map (mvW d))))], 2⟩) (fun i => allA l d i) (fun i => l.length - i) (0) (⟨Nat.zero_le _, rfl⟩) ⟨[0, 1], rfl, ?_⟩ (fun i hi => ?_)
      · refine ⟨rfl, rfl, ?_, ?_, ?_⟩
        · refine ⟨⟨?_, rfl⟩, ?_⟩
          · first | exact .inl rfl | exact .inr rfl | (refine .inl ?_; (first | refine ei ?_ | refine eb ?_ | refine esl ?_ | refine estr ?_ | skip); first | exact W_succ hlt hl | exact mv_succ hlt | rfl) | (refine .inr ?_; (first | refine ei ?_ | refine eb ?_ | refine esl ?_ | refine estr ?_ | skip); first | exact W_succ hlt hl | exact mv_succ hlt | rfl)
          refine ⟨⟨?_, rfl⟩, ?_⟩
          · first | exact .inl rfl | exact .inr rfl | (refine .inl ?_; (first | refine ei ?_ | refine eb ?_ | refine esl ?_ | refine estr ?_ | skip); first | exact W_succ hlt hl | exact mv_succ hlt | rfl) | (refine .inr ?_; (first | refine ei ?_ | refine eb ?_ | refine esl ?_ | refine estr ?_ | skip); first | exact W_succ hlt hl | exact mv_succ hlt | rfl)
          refine ⟨⟨?_, rfl⟩, ?_⟩
          · first | exact .inl rfl | exact .inr rfl | (refine .inl ?_; (first | refine ei ?_ | refine eb ?_ | refine esl ?_ | refine estr ?_ | skip); first | exact W_succ hlt hl | exact mv_succ hlt | rfl) | (refine .inr ?_; (first | refine ei ?_ | refine eb ?_ | refine esl ?_ | refine estr ?_ | skip); first | exact W_succ hlt hl | exact mv_succ hlt | rfl)
          refine ⟨⟨?_, rfl⟩, ?_⟩
          · first | exact .inl rfl | exact .inr rfl | (refine .inl ?_; (first | refine ei ?_ | refine eb ?_ | refine esl ?_ | refine estr ?_ | skip); first | exact W_succ hlt hl | exact mv_succ hlt | rfl) | (refine .inr ?_; (first | refine ei ?_ | refine eb ?_ | refine esl ?_ | refine estr ?_ | skip); first | exact W_succ hlt hl | exact mv_succ hlt | rfl)
          refine ⟨⟨?_, rfl⟩, ?_⟩
          · first | exact .inl rfl | exact .inr rfl | (refine .inl ?_; (first | refine ei ?_ | refine eb ?_ | refine esl ?_ | refine estr ?_ | skip); first | exact W_succ hlt hl | exact mv_succ hlt | rfl) | (refine .inr ?_; (first | refine ei ?_ | refine eb ?_ | refine esl ?_ | refine estr ?_ | skip); first | exact W_succ hlt hl | exact mv_succ hlt | rfl)
          refine ⟨⟨?_, rfl⟩, ?_⟩
          · first | exact .inl rfl | exact .inr rfl | (refine .inl ?_; (first | refine ei ?_ | refine eb ?_ | refine esl ?_ | refine estr ?_ | skip); first | exact W_succ hlt hl | exact mv_succ hlt | rfl) | (refine .inr ?_; (first | refine ei ?_ | refine eb ?_ | refine esl ?_ | refine estr ?_ | skip); first | exact W_succ hlt hl | exact mv_succ hlt | rfl)
          exact trivial
        · refine ⟨⟨?_, rfl, rfl⟩, ?_⟩
          · first | exact ⟨_, rfl, .inl rfl⟩ | exact ⟨_, rfl, .inr rfl⟩ | (refine ⟨_, rfl, .inl ?_⟩; (first | refine ei ?_ | refine eb ?_ | refine esl ?_ | refine estr ?_ | skip); first | exact W_succ hlt hl | exact mv_succ hlt | rfl) | (refine ⟨_, rfl, .inr ?_⟩; (first | refine ei ?_ | refine eb ?_ | refine esl ?_ | refine estr ?_ | skip); first | exact W_succ hlt hl | exact mv_succ hlt | rfl)
          refine ⟨⟨?_, rfl, rfl⟩, ?_⟩
          · first | exact ⟨_, rfl, .inl rfl⟩ | exact ⟨_, rfl, .inr rfl⟩ | (refine ⟨_, rfl, .inl ?_⟩; (first | refine ei ?_ | refine eb ?_ | refine esl ?_ | refine estr ?_ | skip); first | exact W_succ hlt hl | exact mv_succ hlt | rfl) | (refine ⟨_, rfl, .inr ?_⟩; (first | refine ei ?_ | refine eb ?_ | refine esl ?_ | refine estr ?_ | skip); first | exact W_succ hlt hl | exact mv_succ hlt | rfl)
          exact trivial
        · refine ⟨orow rfl ?_ rfl, ?_⟩
          · first | rfl | (first | exact W_succ hlt hl | exact mv_succ hlt | rfl)
          exact trivial
      refine aSR (rv rfl rfl (rn (aS ?_)))
      refine cs_ rfl (fun hc => ?_) (fun hc => ?_)
      · first
        | (cases hc; done)
        | (
          refine aK (aS (aB (aS ?_)))
          (have hlt := lt_len hc) <;> (
          refine aR (ri rfl rfl rfl rfl rfl rfl (Int.natCast_nonneg _) (rows_i hlt) (rows_wide l) (rv rfl rfl (ra rfl rfl rfl (rs rfl rfl rfl rfl rfl rfl rfl (rn (aS ?_))))))
          (rcases hb : addB (gp l i).1 (gp l i).2 d.1 d.2 with _ | _) <;> (
          refine aR (rg 2 rfl (rc1 rfl rfl rfl (add_cb hb) (rg 3 rfl (ra rfl rfl rfl (rs rfl rfl rfl rfl rfl rfl rfl (rv rfl rfl (rn (aS (aSR (rg 2 rfl (rn (then_normal ?_))))))))))))
          refine cs_ rfl (fun hc => ?_) (fun hc => ?_)
          · first
            | (cases hc; done)
            | (
              refine aSR (rg 3 rfl (rn (aT ?_)))
              repeat (first | refine then_ret ?_ | refine inBlock_ret ?_)
              refine rr rfl rfl ?_
              first | exact mv_1 (by assumption) | exact mv_2 hsb hlt hb | exact mv_3 hsb hi (not_lt_len hc) | trace_state)
          · first
            | (cases hc; done)
            | (
              refine aK (aR (rg 2 rfl (rbs false rfl rfl rfl rfl rfl rfl rfl rfl rfl rfl (rap false rfl rfl rfl rfl rfl rfl rfl (.own rfl rfl) (.sl rfl rfl rfl) (pr_plain _ _).wide (pr_plain _ _).ones (by show (_ + 1) * 16 ≤ _; rw [rows_len, List.length_map, List.length_take]; show _ ≤ 140737488355328; omega) rfl (rv rfl rfl (rn (inBlock_normal (aR (rg 2 rfl (rn (then_normal ?_)))))))))))
              refine ⟨i + 1, allA_step hi hlt hb, by omega, [0, 5], rfl, ?_⟩
              refine ⟨rfl, rfl, ?_, ?_, ?_⟩
              · refine ⟨⟨?_, rfl⟩, ?_⟩
                · first | exact .inl rfl | exact .inr rfl | (refine .inl ?_; (first | refine ei ?_ | refine eb ?_ | refine esl ?_ | refine estr ?_ | skip); first | exact W_succ hlt hl | exact mv_succ hlt | rfl) | (refine .inr ?_; (first | refine ei ?_ | refine eb ?_ | refine esl ?_ | refine estr ?_ | skip); first | exact W_succ hlt hl | exact mv_succ hlt | rfl)
                refine ⟨⟨?_, rfl⟩, ?_⟩
                · first | exact .inl rfl | exact .inr rfl | (refine .inl ?_; (first | refine ei ?_ | refine eb ?_ | refine esl ?_ | refine estr ?_ | skip); first | exact W_succ hlt hl | exact mv_succ hlt | rfl) | (refine .inr ?_; (first | refine ei ?_ | refine eb ?_ | refine esl ?_ | refine estr ?_ | skip); first | exact W_succ hlt hl | exact mv_succ hlt | rfl)
                refine ⟨⟨?_, rfl⟩, ?_⟩
                · first | exact .inl rfl | exact .inr rfl | (refine .inl ?_; (first | refine ei ?_ | refine eb ?_ | refine esl ?_ | refine estr ?_ | skip); first | exact W_succ hlt hl | exact mv_succ hlt | rfl) | (refine .inr ?_; (first | refine ei ?_ | refine eb ?_ | refine esl ?_ | refine estr ?_ | skip); first | exact W_succ hlt hl | exact mv_succ hlt | rfl)
                refine ⟨⟨?_, rfl⟩, ?_⟩
                · first | exact .inl rfl | exact .inr rfl | (refine .inl ?_; (first | refine ei ?_ | refine eb ?_ | refine esl ?_ | refine estr ?_ | skip); first | exact W_succ hlt hl | exact mv_succ hlt | rfl) | (refine .inr ?_; (first | refine ei ?_ | refine eb ?_ | refine esl ?_ | refine estr ?_ | skip); first | exact W_succ hlt hl | exact mv_succ hlt | rfl)
                refine ⟨⟨?_, rfl⟩, ?_⟩
                · first | exact .inl rfl | exact .inr rfl | (refine .inl ?_; (first | refine ei ?_ | refine eb ?_ | refine esl ?_ | refine estr ?_ | skip); first | exact W_succ hlt hl | exact mv_succ hlt | rfl) | (refine .inr ?_; (first | refine ei ?_ | refine eb ?_ | refine esl ?_ | refine estr ?_ | skip); first | exact W_succ hlt hl | exact mv_succ hlt | rfl)
                refine ⟨⟨?_, rfl⟩, ?_⟩
                · first | exact .inl rfl | exact .inr rfl | (refine .inl ?_; (first | refine ei ?_ | refine eb ?_ | refine esl ?_ | refine estr ?_ | skip); first | exact W_succ hlt hl | exact mv_succ hlt | rfl) | (refine .inr ?_; (first | refine ei ?_ | refine eb ?_ | refine esl ?_ | refine estr ?_ | skip); first | exact W_succ hlt hl | exact mv_succ hlt | rfl)
                exact trivial
              · refine ⟨⟨?_, rfl, rfl⟩, ?_⟩
                · first | exact ⟨_, rfl, .inl rfl⟩ | exact ⟨_, rfl, .inr rfl⟩ | (refine ⟨_, rfl, .inl ?_⟩; (first | refine ei ?_ | refine eb ?_ | refine esl ?_ | refine estr ?_ | skip); first | exact W_succ hlt hl | exact mv_succ hlt | rfl) | (refine ⟨_, rfl, .inr ?_⟩; (first | refine ei ?_ | refine eb ?_ | refine esl ?_ | refine estr ?_ | skip); first | exact W_succ hlt hl | exact mv_succ hlt | rfl)
                refine ⟨⟨?_, rfl, rfl⟩, ?_⟩
                · first | exact ⟨_, rfl, .inl rfl⟩ | exact ⟨_, rfl, .inr rfl⟩ | (refine ⟨_, rfl, .inl ?_⟩; (first | refine ei ?_ | refine eb ?_ | refine esl ?_ | refine estr ?_ | skip); first | exact W_succ hlt hl | exact mv_succ hlt | rfl) | (refine ⟨_, rfl, .inr ?_⟩; (first | refine ei ?_ | refine eb ?_ | refine esl ?_ | refine estr ?_ | skip); first | exact W_succ hlt hl | exact mv_succ hlt | rfl)
                exact trivial
              · refine ⟨orow rfl ?_ rfl, ?_⟩
                · first | rfl | (first | exact W_succ hlt hl | exact mv_succ hlt | rfl)
                exact trivial))))
      · first
        | (cases hc; done)
        | (
          refine awp_exit ?_
          repeat (first | refine then_exit ?_ | refine inBlock_other rfl ?_)
          refine inBlock_exit (aSR (rg 3 rfl (rn (aT ?_))))
          repeat (first | refine then_ret ?_ | refine inBlock_ret ?_)
          refine rr rfl rfl ?_
          first | exact mv_1 (by assumption) | exact mv_2 hsb hlt hb | exact mv_3 hsb hi (not_lt_len hc) | trace_state)))
end
end Go.Proofs.YtbkomicjhfldmaaGreatDoor
namespace Go.Proofs.YtbkomicjhfldmaaGreatDoor
open Go.Pv
set_option maxRecDepth 100000
set_option maxHeartbeats 4000000
set_option linter.unusedSimpArgs false
set_option linter.unusedVariables false
set_option linter.unusedSectionVars false
def moveO (s a : Bool) (l : List Pt) (d : Pt) : AV := match s, a with
  | true, true => .tup [.sl (rows (l.map (mv d))), .nilI]
  | true, false => .tup [.sl [], .iface 55 (.int .i64 11)]
  | false, _ => .tup [.sl [], .iface 55 (.int .i64 1)]
theorem map_mv {l : List Pt} {d : Pt} (h : l.all (addA d) = true) : l.map (mvW d) = l.map (mv d) :=
  List.map_congr_left fun p hp => (mvW_eq (List.all_eq_true.1 h p hp)).1
theorem move_cb {l : List Pt} {d : Pt} {s a : Bool} (hl : l.length ≤ maxLen) (hs : simpB l = s) (ha : l.all (addA d) = a) : PCall Tryz.prog 86 [.sl (rows l), .agg [.int .i64 d.1, .int .i64 d.2]] (· = moveO s a l d) := by
  have h := move_c (d := d) hl
  unfold moveT at h
  rw [hs, ha] at h
  cases s with
  | false => exact h
  | true =>
    cases a with
    | false => exact h
    | true => rw [map_mv ha] at h; exact h
end Go.Proofs.YtbkomicjhfldmaaGreatDoor
namespace Go.Proofs.YtbkomicjhfldmaaGreatDoor
open Go.Pv
set_option maxRecDepth 100000
set_option maxHeartbeats 4000000
set_option linter.unusedSimpArgs false
set_option linter.unusedVariables false
set_option linter.unusedSectionVars false
theorem rof_y {l : List Pt} (hl : l.length ≤ maxLen) (h : Simp l) : PCall Tryz.prog 52 [.sl (rows l)] (· = .tup [.agg [.int .i64 (box l l.length).1, .int .i64 (box l l.length).2.1, .int .i64 (box l l.length).2.2.1, .int .i64 (box l l.length).2.2.2], .bool true]) := by
  have hr := rof_c hl
  have ha : allMay l = true := List.all_eq_true.2 h.may
  rcases ofs l with ⟨_, _, h1, h2⟩ | ⟨_, h1 | h1⟩
  · unfold rofT at hr; rw [h1, h2] at hr; exact hr
  · rw [ha] at h1; cases h1
  · have := h.n3; rw [h1] at this; simp at this
end Go.Proofs.YtbkomicjhfldmaaGreatDoor
namespace Go.Proofs.YtbkomicjhfldmaaGreatDoor
open Go.Pv
set_option maxRecDepth 100000
set_option maxHeartbeats 4000000
set_option linter.unusedSimpArgs false
set_option linter.unusedVariables false
set_option linter.unusedSectionVars false
def zero4 (a b c d : Int) : Bool := a == 0 && (b == 0 && (c == 0 && (d == 0 && true)))
def mayG (a b c d : Int) (l : List Pt) : Bool := match l with
  | [] => mayR a b c d
  | _ :: _ => zero4 a b c d && simpB l
theorem mayG_0 {a b c d : Int} {l : List Pt} (h : (((rows l).length : Int) == 0) = true) : mayR a b c d = mayG a b c d l := by
  cases l with
  | nil => rfl
  | cons q t => simp [rows] at h; omega
theorem cons_of {l : List Pt} (h : (((rows l).length : Int) == 0) = false) : ∃ q t, l = q :: t := by
  cases l with
  | nil => simp [rows] at h
  | cons q t => exact ⟨q, t, rfl⟩
theorem mayG_1 {a b c d : Int} {l : List Pt} (h : (((rows l).length : Int) == 0) = false) : (zero4 a b c d && simpB l) = mayG a b c d l := by
  obtain ⟨q, t, rfl⟩ := cons_of h; rfl
theorem mayG_2 {a b c d : Int} {l : List Pt} (h : (((rows l).length : Int) == 0) = false) (hz : zero4 a b c d = false) : false = mayG a b c d l := by rw [← mayG_1 h, hz]; rfl
theorem mayG_3 {a b c d : Int} {l : List Pt} (h : (((rows l).length : Int) == 0) = false) (hz : zero4 a b c d = true) : simpB l = mayG a b c d l := by rw [← mayG_1 h, hz]; rfl
theorem mayG_4 {a b c d : Int} {l : List Pt} (h : (((rows l).length : Int) == 0) = false) (hz : simpB l = false) : false = mayG a b c d l := by rw [← mayG_1 h, hz, Bool.and_false]
theorem mayG_5 {a b c d : Int} {l : List Pt} (h : (((rows l).length : Int) == 0) = false) (hz : simpB l = true) : zero4 a b c d = mayG a b c d l := by rw [← mayG_1 h, hz, Bool.and_true]
section
attribute [local irreducible] awp aops DP PCall ACall Decidable.decide Nat.mod simpB mayP mayR mayG inE inR box addB holdsR
theorem mayG_c {a b c d : Int} {l : List Pt} (hl : l.length ≤ maxLen) : PCall Tryz.prog 43 [.agg [.int .i64 (a), .int .i64 (b), .int .i64 (c), .int .i64 (d), .sl (rows l)]] (· = .bool (mayG a b c d l)) := by
  refine pB_ Tryz.func43 ?_
  refine aSR (rb rfl rfl (rv rfl rfl (rn (aS (aSR (rg 4 rfl (rn (then_normal ?_))))))))
  refine cs_ rfl (fun hc => ?_) (fun hc => ?_)
  · first
    | (cases hc; done)
    | (
      refine aSR (rg 2 rfl (rc1 rfl rfl rfl mayR_c (rv rfl rfl (rn (aT ?_)))))
      repeat (first | refine then_ret ?_ | refine inBlock_ret ?_)
      refine rr rfl rfl ?_
      first | exact eb (mayG_0 (by assumption)) | exact eb (mayG_2 (by assumption) (by first | assumption | (simpa [zero4] using (by assumption)))) | exact eb (mayG_3 (by assumption) (by first | assumption | (simpa [zero4] using hg))) | exact eb (mayG_4 (by assumption) (by assumption)) | exact eb (mayG_5 (by assumption) (by assumption)) | trace_state)
  · first
    | (cases hc; done)
    | (
      refine aK (aSR (rg 5 rfl ?_))
      (iterate 2 all_goals (first | refine gy_ (rv rfl rfl ?_) | refine gn_ ?_ | refine gu_ ?_ | refine gs rfl rfl rfl rfl rfl (fun hg => rv rfl rfl ?_) fun hg => ?_)) <;> (
      (first | refine gy_ (rc1 rfl rfl rfl (simple_c hl) (?_)) | refine gn_ ?_ | refine gu_ ?_ | refine gs rfl rfl rfl rfl rfl (fun hg => rc1 rfl rfl rfl (simple_c hl) (?_)) fun hg => ?_) <;> (
      refine rg 2 rfl (rn (aT ?_))
      repeat (first | refine then_ret ?_ | refine inBlock_ret ?_)
      refine rr rfl rfl ?_
      first | exact eb (mayG_0 (by assumption)) | exact eb (mayG_2 (by assumption) (by first | assumption | (simpa [zero4] using (by assumption)))) | exact eb (mayG_3 (by assumption) (by first | assumption | (simpa [zero4] using hg))) | exact eb (mayG_4 (by assumption) (by assumption)) | exact eb (mayG_5 (by assumption) (by assumption)) | trace_state)))
end
def bxG (a b c d : Int) (l : List Pt) : Int × Int × Int × Int := match l with
  | [] => (a, b, c, d)
  | _ :: _ => box l l.length
def rcV (r : Int × Int × Int × Int) : AV := .agg [.int .i64 r.1, .int .i64 r.2.1, .int .i64 r.2.2.1, .int .i64 r.2.2.2]
def boxO (m : Bool) (r : Int × Int × Int × Int) : AV := match m with
  | true => .tup [.agg [.int .i64 r.1, .int .i64 r.2.1, .int .i64 r.2.2.1, .int .i64 r.2.2.2], .nilI]
  | false => .tup [.agg [.int .i64 0, .int .i64 0, .int .i64 0, .int .i64 0], .iface 55 (.int .i64 1)]
theorem mayG_cb {a b c d : Int} {l : List Pt} {m : Bool} (hl : l.length ≤ maxLen) (h : mayG a b c d l = m) : PCall Tryz.prog 43 [.agg [.int .i64 a, .int .i64 b, .int .i64 c, .int .i64 d, .sl (rows l)]] (· = .bool m) := h ▸ mayG_c hl
theorem mayG_simp {a b c d : Int} {q : Pt} {t : List Pt} (h : mayG a b c d (q :: t) = true) : zero4 a b c d = true ∧ Simp (q :: t) := by
  simp only [mayG, Bool.and_eq_true] at h; exact ⟨h.1, (simpB_iff _).1 h.2⟩
def ofO (l : List Pt) : AV := match l with
  | [] => .tup [.agg [.int .i64 0, .int .i64 0, .int .i64 0, .int .i64 0], .bool false]
  | _ :: _ => .tup [.agg [.int .i64 (box l l.length).1, .int .i64 (box l l.length).2.1, .int .i64 (box l l.length).2.2.1, .int .i64 (box l l.length).2.2.2], .bool true]
theorem of_cb {a b c d : Int} {l : List Pt} (hl : l.length ≤ maxLen) (h : mayG a b c d l = true) : PCall Tryz.prog 128 [.sl (rows l)] (· = ofO l) := by
  cases l with
  | nil => exact of_c (ps := []) hl
  | cons q t =>
    have hs := (mayG_simp h).2
    have := of_c hl
    unfold ofT at this
    have ha : allMay (q :: t) = true := List.all_eq_true.2 hs.may
    rw [ha] at this
    have hd : decide (((rows (q :: t)).length : Int) > 0) = true := by simp [rows]
    rw [hd] at this
    exact this
theorem rof_cb {q : Pt} {t : List Pt} {a b c d : Int} (hl : (q :: t).length ≤ maxLen) (h : mayG a b c d (q :: t) = true) : PCall Tryz.prog 52 [.sl (rows (q :: t))] (· = ofO (q :: t)) := rof_y hl (mayG_simp h).2
section
attribute [local irreducible] awp aops DP PCall ACall Decidable.decide Nat.mod simpB mayP mayR mayG inE inR box addB holdsR
theorem boxG_c {a b c d : Int} {l : List Pt} {m : Bool} (hl : l.length ≤ maxLen) (hm : mayG a b c d l = m) : PCall Tryz.prog 80 [.agg [.int .i64 (a), .int .i64 (b), .int .i64 (c), .int .i64 (d), .sl (rows l)]] (· = boxO m (bxG a b c d l)) := by
  refine pB_ Tryz.func80 ?_
  refine aS ?_
  (rcases m with _ | _ <;> rcases l with _ | ⟨q, t⟩) <;> (
  refine aR (rb rfl rfl (ra rfl rfl rfl (rv rfl rfl (rn (aS (aSR (rv rfl rfl (rc1 rfl rfl rfl (mayG_cb hl hm) (rv rfl rfl (rn (then_normal ?_)))))))))))
  refine cs_ rfl (fun hc => ?_) (fun hc => ?_)
  · first
    | (cases hc; done)
    | (
      refine aSR (rg 2 rfl (rs rfl rfl rfl rfl rfl rfl rfl (rv rfl rfl (rn (aT ?_)))))
      repeat (first | refine then_ret ?_ | refine inBlock_ret ?_)
      refine rr rfl rfl ?_
      first | rfl | (cases hc; done) | trace_state)
  · first
    | (cases hc; done)
    | (
      refine aK (aS (aSR (rg 2 rfl (rc1 rfl rfl rfl (of_cb hl hm) (rg 3 rfl (ra rfl rfl rfl (rs rfl rfl rfl rfl rfl rfl rfl (rv rfl rfl (rn (aSR (rv rfl rfl (rn (then_normal ?_)))))))))))))
      refine cs_ rfl (fun hc => ?_) (fun hc => ?_)
      · first
        | (cases hc; done)
        | (
          refine aSR (rv rfl rfl (rs rfl rfl rfl rfl rfl rfl rfl (rv rfl rfl (rn (aT ?_)))))
          repeat (first | refine then_ret ?_ | refine inBlock_ret ?_)
          refine rr rfl rfl ?_
          first | rfl | (cases hc; done) | trace_state)
      · first
        | (cases hc; done)
        | (
          refine aK (aSR (rg 2 rfl (rs rfl rfl rfl rfl rfl rfl rfl (rv rfl rfl (rn (aT ?_))))))
          repeat (first | refine then_ret ?_ | refine inBlock_ret ?_)
          refine rr rfl rfl ?_
          first | rfl | (cases hc; done) | trace_state)))
end
def inG (a b c d : Int) (l : List Pt) (p : Pt) : Bool := mayG a b c d l && my p && match l with
  | [] => inR a b c d p.1 p.2
  | _ :: _ => inE l p
theorem inG_1 {a b c d : Int} {l : List Pt} {p : Pt} (h : mayG a b c d l = false) : false = inG a b c d l p := by unfold inG; rw [h]; rfl
theorem inG_2 {a b c d : Int} {l : List Pt} {p : Pt} (h : mayP p.1 p.2 = false) : false = inG a b c d l p := by unfold inG my; rw [h, Bool.and_false]; rfl
theorem inG_3 {a b c d : Int} {q : Pt} {t : List Pt} {p : Pt} (h : mayG a b c d (q :: t) = true) (hp : mayP p.1 p.2 = true) : inE (q :: t) p = inG a b c d (q :: t) p := by unfold inG my; rw [h, hp]; rfl
theorem inG_4 {a b c d : Int} {p : Pt} (h : mayG a b c d [] = true) (hp : mayP p.1 p.2 = true) : inR a b c d p.1 p.2 = inG a b c d [] p := by unfold inG my; rw [h, hp]; rfl
theorem nots {b : Bool} (h : (!b) = true) : b = false := by simpa using h
theorem notf {b : Bool} (h : (!b) = false) : b = true := by simpa using h
section
attribute [local irreducible] awp aops DP PCall ACall Decidable.decide Nat.mod simpB mayP mayR mayG inE inR box addB holdsR
theorem inG_c {a b c d : Int} {l : List Pt} {p : Pt} (hl : l.length ≤ maxLen) : PCall Tryz.prog 61 [.agg [.int .i64 (a), .int .i64 (b), .int .i64 (c), .int .i64 (d), .sl (rows l)], .agg [.int .i64 (p).1, .int .i64 (p).2]] (· = .bool (inG a b c d l p)) := by
  refine pB_ Tryz.func61 ?_
  refine aS ?_
  (rcases l with _ | ⟨q, t⟩) <;> (
  refine aR (rb rfl rfl (rb rfl rfl (rv rfl rfl (rn (aS (aB (aSR (rv rfl rfl (rc1 rfl rfl rfl (mayG_c hl) (rg 2 rfl ?_))))))))))
  ((first | refine gy_ (rv rfl rfl ?_) | refine gn_ ?_ | refine gu_ ?_ | refine gs rfl rfl rfl rfl rfl (fun hg => rv rfl rfl ?_) fun hg => ?_)) <;> (
  (first | refine gy_ (rc1 rfl rfl rfl mayP_c (?_)) | refine gn_ ?_ | refine gu_ ?_ | refine gs rfl rfl rfl rfl rfl (fun hg => rc1 rfl rfl rfl mayP_c (?_)) fun hg => ?_) <;> (
  ((first | refine gy_ (rv rfl rfl ?_) | refine gn_ ?_ | refine gu_ ?_ | refine gs rfl rfl rfl rfl rfl (fun hg => rv rfl rfl ?_) fun hg => ?_)) <;> (
  refine rg 2 rfl (rn (then_normal ?_))
  refine cs_ rfl (fun hc => ?_) (fun hc => ?_)
  · first
    | (cases hc; done)
    | (
      refine aSR (rv rfl rfl (rn (aT ?_)))
      repeat (first | refine then_ret ?_ | refine inBlock_ret ?_)
      refine rr rfl rfl ?_
      first | exact eb (inG_1 (nots (by assumption))) | exact eb (inG_2 (nots (by assumption))) | exact eb (inG_3 (notf (by assumption)) (notf (by assumption))) | exact eb (inG_4 (notf (by assumption)) (notf (by assumption))) | (exfalso; simp [rows] at hc; done) | (exfalso; simp [rows] at hc; omega) | trace_state)
  · first
    | (cases hc; done)
    | (
      refine aSR (rg 5 rfl (rn (then_normal ?_)))
      refine cs_ rfl (fun hc => ?_) (fun hc => ?_)
      · first
        | (cases hc; done)
        | (
          refine aSR (rg 3 rfl (rc1 rfl rfl rfl (in_c hl) (rv rfl rfl (rn (aT ?_)))))
          repeat (first | refine then_ret ?_ | refine inBlock_ret ?_)
          refine rr rfl rfl ?_
          first | exact eb (inG_1 (nots (by assumption))) | exact eb (inG_2 (nots (by assumption))) | exact eb (inG_3 (notf (by assumption)) (notf (by assumption))) | exact eb (inG_4 (notf (by assumption)) (notf (by assumption))) | (exfalso; simp [rows] at hc; done) | (exfalso; simp [rows] at hc; omega) | trace_state)
      · first
        | (cases hc; done)
        | (
          refine aK (inBlock_normal (aSR (rg 3 rfl (rc1 rfl rfl rfl inR_c (rv rfl rfl (rn (aT ?_)))))))
          repeat (first | refine then_ret ?_ | refine inBlock_ret ?_)
          refine rr rfl rfl ?_
          first | exact eb (inG_1 (nots (by assumption))) | exact eb (inG_2 (nots (by assumption))) | exact eb (inG_3 (notf (by assumption)) (notf (by assumption))) | exact eb (inG_4 (notf (by assumption)) (notf (by assumption))) | (exfalso; simp [rows] at hc; done) | (exfalso; simp [rows] at hc; omega) | trace_state))))))
end
section
attribute [local irreducible] awp aops DP PCall ACall Decidable.decide Nat.mod simpB mayP mayR mayG inE inR box addB holdsR
theorem rboxG_c {a b c d : Int} {l : List Pt} (hl : l.length ≤ maxLen) (hm : mayG a b c d l = true) : PCall Tryz.prog 14 [.agg [.int .i64 (a), .int .i64 (b), .int .i64 (c), .int .i64 (d), .sl (rows l)]] (· = rcV (bxG a b c d l)) := by
  refine pB_ Tryz.func14 ?_
  refine aS ?_
  (rcases l with _ | ⟨q, t⟩) <;> (
  refine aR (rb rfl rfl (ra rfl rfl rfl (rn (aS (aSR (rg 4 rfl (rn (then_normal ?_))))))))
  refine cs_ rfl (fun hc => ?_) (fun hc => ?_)
  · first
    | (cases hc; done)
    | (
      refine aSR (rg 2 rfl (rs rfl rfl rfl rfl rfl rfl rfl (rn (aT ?_))))
      repeat (first | refine then_ret ?_ | refine inBlock_ret ?_)
      refine rr rfl rfl ?_
      first | rfl | (exfalso; simp [rows] at hc; done) | (exfalso; simp [rows] at hc; omega) | trace_state)
  · first
    | (cases hc; done)
    | (
      refine aK (aSR (rg 2 rfl (rc1 rfl rfl rfl (by first | exact rof_cb hl hm | exact rof_c hl) (rg 3 rfl (ra rfl rfl rfl (rs rfl rfl rfl rfl rfl rfl rfl (rv rfl rfl (rn (aSR (rv rfl rfl (rs rfl rfl rfl rfl rfl rfl rfl (rn (aT ?_)))))))))))))
      repeat (first | refine then_ret ?_ | refine inBlock_ret ?_)
      refine rr rfl rfl ?_
      first | rfl | (exfalso; simp [rows] at hc; done) | (exfalso; simp [rows] at hc; omega) | trace_state))
end
end Go.Proofs.YtbkomicjhfldmaaGreatDoor
