/- The texts of a proof, put together by a program of this session's; names are short for the size's sake. -/
import Derived.Shelf.Strconv.ParseIntPublic10
import Derived.Lib.AtoiErrMem
import Derived.Test.YtbkomicjhfldmaaGreatDoorM6
namespace Go.Proofs.YtbkomicjhfldmaaGreatDoor
open Go.Pv
open Go.RowKit (Below)
set_option linter.unusedSimpArgs false
set_option linter.unusedVariables false
set_option linter.unusedSectionVars false
set_option maxRecDepth 100000
set_option maxHeartbeats 4000000
def Tryz.lays174_ren : Go.Shelf.Ren := ⟨fun | 174 => 223 | 247 => 248 | 245 => 249 | 287 => 273 | 279 => 274 | 280 => 275 | 281 => 276 | 282 => 277 | 321 => 294 | 322 => 295 | 316 => 296 | 171 => 298 | 205 => 297 | 243 => 306 | 246 => 312 | 283 => 314 | 284 => 315 | 285 => 316 | 286 => 317 | 129 => 198 | 317 => 319 | 318 => 320 | 319 => 321 | 320 => 322 | 337 => 323 | 338 => 324 | n => n, fun | 9 => 9 | 3 => 3 | 2 => 2 | 75 => 31 | 85 => 279 | 4 => 4 | 167 => 320 | 5 => 5 | 53 => 265 | 175 => 321 | 46 => 214 | 168 => 323 | 37 => 340 | 0 => 0 | 210 => 343 | 21 => 21 | 127 => 352 | 145 => 355 | 143 => 353 | 171 => 362 | 173 => 364 | 212 => 367 | 51 => 49 | 20 => 20 | 213 => 368 | 232 => 369 | 233 => 370 | 80 => 371 | n => n, fun | 15 => 1 | 16 => 2 | 17 => 3 | 18 => 4 | 19 => 5 | n => n⟩
theorem Tryz.lays174 : Go.Proofs.LaysC.n174 Tryz.prog Tryz.lays174_ren where
 mixed := by kernel_rfl
 f129 := Tryz.func198.trans (congrArg some (by kernel_rfl))
 f171 := Tryz.func298.trans (congrArg some (by kernel_rfl))
 f174 := Tryz.func223.trans (congrArg some (by kernel_rfl))
 f205 := Tryz.func297.trans (congrArg some (by kernel_rfl))
 f243 := Tryz.func306.trans (congrArg some (by kernel_rfl))
 f245 := Tryz.func249.trans (congrArg some (by kernel_rfl))
 f246 := Tryz.func312.trans (congrArg some (by kernel_rfl))
 f247 := Tryz.func248.trans (congrArg some (by kernel_rfl))
 f279 := Tryz.func274.trans (congrArg some (by kernel_rfl))
 f280 := Tryz.func275.trans (congrArg some (by kernel_rfl))
 f281 := Tryz.func276.trans (congrArg some (by kernel_rfl))
 f282 := Tryz.func277.trans (congrArg some (by kernel_rfl))
 f283 := Tryz.func314.trans (congrArg some (by kernel_rfl))
 f284 := Tryz.func315.trans (congrArg some (by kernel_rfl))
 f285 := Tryz.func316.trans (congrArg some (by kernel_rfl))
 f286 := Tryz.func317.trans (congrArg some (by kernel_rfl))
 f287 := Tryz.func273.trans (congrArg some (by kernel_rfl))
 f316 := Tryz.func296.trans (congrArg some (by kernel_rfl))
 f317 := Tryz.func319.trans (congrArg some (by kernel_rfl))
 f318 := Tryz.func320.trans (congrArg some (by kernel_rfl))
 f319 := Tryz.func321.trans (congrArg some (by kernel_rfl))
 f320 := Tryz.func322.trans (congrArg some (by kernel_rfl))
 f321 := Tryz.func294.trans (congrArg some (by kernel_rfl))
 f322 := Tryz.func295.trans (congrArg some (by kernel_rfl))
 f337 := Tryz.func323.trans (congrArg some (by kernel_rfl))
 f338 := Tryz.func324.trans (congrArg some (by kernel_rfl))
 t0 := Tryz.underlying0
 a0 := Tryz.isAgg0
 z0 := Tryz.sizeOf0
 v0 := Tryz.zeroValue0
 t2 := Tryz.underlying2
 a2 := Tryz.isAgg2
 z2 := Tryz.sizeOf2
 v2 := Tryz.zeroValue2
 t3 := Tryz.underlying3
 a3 := Tryz.isAgg3
 z3 := Tryz.sizeOf3
 v3 := Tryz.zeroValue3
 t4 := Tryz.underlying4
 a4 := Tryz.isAgg4
 z4 := Tryz.sizeOf4
 v4 := Tryz.zeroValue4
 t5 := Tryz.underlying5
 a5 := Tryz.isAgg5
 z5 := Tryz.sizeOf5
 v5 := Tryz.zeroValue5
 t9 := Tryz.underlying9
 a9 := Tryz.isAgg9
 z9 := Tryz.sizeOf9
 v9 := Tryz.zeroValue9
 t20 := Tryz.underlying20
 a20 := Tryz.isAgg20
 z20 := Tryz.sizeOf20
 v20 := Tryz.zeroValue20
 t21 := Tryz.underlying21
 a21 := Tryz.isAgg21
 z21 := Tryz.sizeOf21
 v21 := Tryz.zeroValue21
 t37 := Tryz.underlying340
 a37 := Tryz.isAgg340
 z37 := Tryz.sizeOf340
 v37 := Tryz.zeroValue340
 t46 := Tryz.underlying214
 a46 := Tryz.isAgg214
 z46 := Tryz.sizeOf214
 v46 := Tryz.zeroValue214
 t51 := Tryz.underlying49
 a51 := Tryz.isAgg49
 z51 := Tryz.sizeOf49
 v51 := Tryz.zeroValue49
 t53 := Tryz.underlying265
 a53 := Tryz.isAgg265
 z53 := Tryz.sizeOf265
 v53 := Tryz.zeroValue265
 t75 := Tryz.underlying31
 a75 := Tryz.isAgg31
 z75 := Tryz.sizeOf31
 v75 := Tryz.zeroValue31
 t85 := Tryz.underlying279
 a85 := Tryz.isAgg279
 z85 := Tryz.sizeOf279
 v85 := Tryz.zeroValue279
 t127 := Tryz.underlying352
 a127 := Tryz.isAgg352
 z127 := Tryz.sizeOf352
 v127 := Tryz.zeroValue352
 t143 := Tryz.underlying353
 a143 := Tryz.isAgg353
 z143 := Tryz.sizeOf353
 v143 := Tryz.zeroValue353
 t145 := Tryz.underlying355
 a145 := Tryz.isAgg355
 z145 := Tryz.sizeOf355
 v145 := Tryz.zeroValue355
 t167 := Tryz.underlying320
 a167 := Tryz.isAgg320
 z167 := Tryz.sizeOf320
 v167 := Tryz.zeroValue320
 t168 := Tryz.underlying323
 a168 := Tryz.isAgg323
 z168 := Tryz.sizeOf323
 v168 := Tryz.zeroValue323
 t171 := Tryz.underlying362
 a171 := Tryz.isAgg362
 z171 := Tryz.sizeOf362
 v171 := Tryz.zeroValue362
 t173 := Tryz.underlying364
 a173 := Tryz.isAgg364
 z173 := Tryz.sizeOf364
 v173 := Tryz.zeroValue364
 t175 := Tryz.underlying321
 a175 := Tryz.isAgg321
 z175 := Tryz.sizeOf321
 v175 := Tryz.zeroValue321
 t210 := Tryz.underlying343
 a210 := Tryz.isAgg343
 z210 := Tryz.sizeOf343
 v210 := Tryz.zeroValue343
 t212 := Tryz.underlying367
 a212 := Tryz.isAgg367
 z212 := Tryz.sizeOf367
 v212 := Tryz.zeroValue367
 t213 := Tryz.underlying368
 a213 := Tryz.isAgg368
 z213 := Tryz.sizeOf368
 t232 := Tryz.underlying369
 a232 := Tryz.isAgg369
 z232 := Tryz.sizeOf369
 v232 := Tryz.zeroValue369
 t233 := Tryz.underlying370
 a233 := Tryz.isAgg370
 z233 := Tryz.sizeOf370
 v233 := Tryz.zeroValue370
 g15 := by kernel_rfl
 g16 := by kernel_rfl
 g17 := by kernel_rfl
 g18 := by kernel_rfl
 g19 := by kernel_rfl
 t80 := Tryz.underlying371
 a80 := Tryz.isAgg371
 z80 := Tryz.sizeOf371
 v80 := Tryz.zeroValue371
 i0 := by kernel_rfl
 i2 := by kernel_rfl
 i3 := by kernel_rfl
 i4 := by kernel_rfl
 i5 := by kernel_rfl
 i9 := by kernel_rfl
 i20 := by kernel_rfl
 i21 := by kernel_rfl
 i37 := by kernel_rfl
 i46 := by kernel_rfl
 i51 := by kernel_rfl
 i53 := by kernel_rfl
 i75 := by kernel_rfl
 i80 := by kernel_rfl
 i85 := by kernel_rfl
 i127 := by kernel_rfl
 i143 := by kernel_rfl
 i145 := by kernel_rfl
 i167 := by kernel_rfl
 i168 := by kernel_rfl
 i171 := by kernel_rfl
 i173 := by kernel_rfl
 i175 := by kernel_rfl
 i210 := by kernel_rfl
 i212 := by kernel_rfl
 i232 := by kernel_rfl
 i233 := by kernel_rfl
 m15 := by kernel_rfl
 m16 := by kernel_rfl
 m17 := by kernel_rfl
 m18 := by kernel_rfl
 m19 := by kernel_rfl
 c0 := by kernel_rfl
 c2 := by kernel_rfl
 c3 := by kernel_rfl
 c4 := by kernel_rfl
 c5 := by kernel_rfl
 c9 := by kernel_rfl
 c20 := by kernel_rfl
 c21 := by kernel_rfl
 c37 := by kernel_rfl
 c46 := by kernel_rfl
 c51 := by kernel_rfl
 c53 := by kernel_rfl
 c75 := by kernel_rfl
 c80 := by kernel_rfl
 c85 := by kernel_rfl
 c127 := by kernel_rfl
 c143 := by kernel_rfl
 c145 := by kernel_rfl
 c167 := by kernel_rfl
 c168 := by kernel_rfl
 c171 := by kernel_rfl
 c173 := by kernel_rfl
 c175 := by kernel_rfl
 c210 := by kernel_rfl
 c212 := by kernel_rfl
 c213 := by kernel_rfl
 c232 := by kernel_rfl
 c233 := by kernel_rfl
theorem Ce {P : Program} {f : FuncId} {args : List AV} {K : AV → Prop} (hg : vC P f = true)
  (h : ∀ w top vals, g8 w (G.ofTop top) → aG w (G.ofTop top) args vals → Calls P f vals.toArray w fun e w' => ∃ v r, e = .returned v ∧ K r ∧ bU w' (G.ofTop top) r v ∧ Below w.heap.size w w') : ai P f args K :=
 ⟨hg, fun w top vals ht hl hr => (h w top vals hl hr).mono fun e w' ⟨v, r, h1, h2, h3, h4⟩ => ⟨v, r, top, h1, h2, h3, h4, fun _ _ => rfl, fun b hb => ht b (Nat.le_trans h4.size hb)⟩⟩
theorem xM {w : World} {g : G} (h : g8 w g) {b : Nat} (hb : (b, GL) ∈ In) : ∃ ev, w.cell? ⟨b, 0, none⟩ = some ev ∧ (ev = .nilIface ∨ ∃ te pe, ev = .iface te pe) := by
 obtain ⟨_, o, h2, cs, t, fr, v, rfl, h3, h4⟩ := h _ hb
 exact ⟨v, by simp [World.cell?, h2, h3], h4⟩
def yw (s : aY) : Option Int := match Lib.parseIntB 64 s with
 | .ok v => some v
 | _ => none
def iR (fu : Nat) (s : aY) : Option (Option Int) := if s.length ≤ 281474976710656 then some (yw s) else none
def J2 : Option Int → AV
 | some v => .tup [.int .i64 v, .nilI]
 | none => .tup [.any, .iface 323 .any]
theorem qQ {fu : Nat} {s : aY} {r : Option Int} (h : iR fu s = some r) : ai Tryz.prog 223 [.str (sB s), .int .i64 10, .int .i64 64] (· = J2 r) := by
 unfold iR at h
 split at h
 ·
  rename_i hs
  have h := Ke h
  subst h
  refine Ce (by kernel_rfl) fun w top vals hl hr => ?_
  obtain ⟨v0, _, rfl, rfl, v1, _, rfl, rfl, v2, _, rfl, rfl, rfl⟩ := hr
  have hsz : (sB s).size = s.length := by simp [sB, ByteArray.size]
  have hd : (sB s).data.toList = s := by simp [sB]
  unfold yw
  rcases hp : Lib.parseIntB 64 s with v | _ | _
  ·
   refine (Any.strconv_ParseInt_10_at64_ok Tryz.lays174 (sB s) (by omega) v (by rw [hd]; exact hp) w).mono fun e w' ⟨he, hw⟩ => ?_
   refine ⟨_, _, he, rfl, ⟨[.int .i64 v, .nilIface], rfl, _, _, rfl, rfl, _, _, rfl, rfl, rfl⟩, ?_⟩
   rcases hw with rfl | ⟨t, rfl⟩
   · exact Below.refl _ _
   · exact Lib.bytesWorld_below w _ t
  ·
   obtain ⟨ev, h1, h2⟩ := xM hl (b := Tryz.lays174_ren.g 15) (by simp [In, Tryz.lays174_ren])
   refine (Any.strconv_ParseInt_10_at64_syntax Tryz.lays174 (sB s) (by omega) (by rw [hd]; exact hp) ev w h1 h2).mono fun e w' ⟨N, he, _, _, hb⟩ => ?_
   exact ⟨_, _, he, rfl, ⟨[.int .i64 0, .iface 323 (.pointer (some ⟨N, 0, none⟩))], rfl, _, _, rfl, trivial, _, _, rfl, ⟨_, rfl, trivial⟩, rfl⟩, hb⟩
  ·
   obtain ⟨ev, h1, h2⟩ := xM hl (b := Tryz.lays174_ren.g 16) (by simp [In, Tryz.lays174_ren])
   refine (Any.strconv_ParseInt_10_at64_range Tryz.lays174 (sB s) (by omega) (by rw [hd]; exact hp) ev w h1 h2).mono fun e w' ⟨N, he, _, _, hb⟩ => ?_
   exact ⟨_, _, he, rfl, ⟨[.int .i64 (Lib.intSat 64 (sB s).data.toList), .iface 323 (.pointer (some ⟨N, 0, none⟩))], rfl, _, _, rfl, trivial, _, _, rfl, ⟨_, rfl, trivial⟩, rfl⟩, hb⟩
 · cases h
end Go.Proofs.YtbkomicjhfldmaaGreatDoor
namespace Go.Proofs.YtbkomicjhfldmaaGreatDoor
open Go.Pv
set_option maxRecDepth 100000
set_option maxHeartbeats 4000000
set_option linter.unusedSimpArgs false
set_option linter.unusedVariables false
set_option linter.unusedSectionVars false
structure ax where
 Kind : Int
 At : Int
 N : Int
 S : aY
def aA (x : ax) : List AV := [.int .i64 x.Kind, .int .i64 x.At, .int .i64 x.N, .str (sB x.S)]
def bX (fu : Nat) (s1 : aY) (prefix1 : aY) : Option Bool :=
 bif (decide ((s1.length : Int) ≥ (prefix1.length : Int))) then ((kC s1 0 (prefix1.length : Int)).bind fun s2 => some (s2 == prefix1)) else some false
section
attribute [local irreducible] cg aM DP ai aP Decidable.decide
theorem gK {fu : Nat} {s1 : aY} {prefix1 : aY} {r : Bool} (h : bX fu s1 prefix1 = some r) : ai Tryz.prog 213 [.str (sB s1), .str (sB prefix1)] (· = .bool r) := by
 rw [bX] at h
 refine cf Tryz.func213 ?_
 refine ag (rv Z Z (rn (ag (rg 6 rfl (dN Z Z Z Z Z h (fun h_1 => ?_) fun h_1 => ?_)))))
 ·clear h
  exact rg 3 rfl (gy Z Z Z (bx h_1 fun s2 hx1 h_2 => rV rfl (gR Z Z Z Z ⟨_, rfl⟩ hx1) (rg 2 rfl (rt (jH s2 prefix1) (rg 2 rfl (rn (aT (si h_2 ▸ rF))))))))
 clear h
 exact rg 7 rfl (rn (aT (si h_1 ▸ rF)))
def bW (fu : Nat) (s1 : aY) (prefix1 : aY) : Option Bool :=
 (bX fu s1 prefix1).bind fun x1 => some x1
theorem js {fu : Nat} {s1 : aY} {prefix1 : aY} {r : Bool} (h : bW fu s1 prefix1 = some r) : ai Tryz.prog 158 [.str (sB s1), .str (sB prefix1)] (· = .bool r) := by
 rw [bW] at h
 refine cf Tryz.func158 ?_
 exact ag (rv Z Z (rn (ag (rg 2 rfl (bx h fun x1 hx1 h_1 => bt Z Z Z (gK hx1) (rv Z Z (rn (aT (si h_1 ▸ rF)))))))))
def dK (fu : Nat) (s1 : aY) (prefix1 : aY) : Option aY :=
 (bX fu s1 prefix1).bind fun x1 => bif x1 then ((kC s1 (prefix1.length : Int) (s1.length : Int)).bind fun s2 => some s2) else some s1
theorem kD {fu : Nat} {s1 : aY} {prefix1 : aY} {r : aY} (h : dK fu s1 prefix1 = some r) : ai Tryz.prog 247 [.str (sB s1), .str (sB prefix1)] (· = .str (sB r)) := by
 rw [dK] at h
 refine cf Tryz.func247 ?_
 refine ag (rv Z Z (rn (aS (ag (rg 2 rfl (bx h fun x1 hx1 h_1 => bt Z Z Z (gK hx1) (rn (bw rfl h_1 (fun h_2 => ?_) fun h_2 => ?_))))))))
 ·clear h h_1
  exact ag (rg 3 rfl (bx h_2 fun s2 hx2 h_3 => rV rfl (gR Z Z Z ⟨_, rfl⟩ rfl hx2) (rv Z Z (rn (aT (si h_3 ▸ rF))))))
 clear h h_1
 exact aK (ag (rg 2 rfl (rn (aT (si h_2 ▸ rF)))))
def dO (fu : Nat) (s1 : aY) (prefix1 : aY) : Option aY :=
 (dK fu s1 prefix1).bind fun x1 => some x1
theorem mK {fu : Nat} {s1 : aY} {prefix1 : aY} {r : aY} (h : dO fu s1 prefix1 = some r) : ai Tryz.prog 222 [.str (sB s1), .str (sB prefix1)] (· = .str (sB r)) := by
 rw [dO] at h
 refine cf Tryz.func222 ?_
 exact ag (rv Z Z (rn (ag (rg 2 rfl (bx h fun x1 hx1 h_1 => bt Z Z Z (kD hx1) (rv Z Z (rn (aT (si h_1 ▸ rF)))))))))
def eC (fu : Nat) (s1 : List aY) (v1 : aY) : Option Int :=
 (bm (ε := Int) (τ := Unit ⊕ Int) (fun (x1 : Int) => (bif (decide (x1 < (s1.length : Int))) then ((gi s1 x1).bind fun x3 => bif (v1 == x3) then some (Sum.inr (Sum.inr x1)) else some (Sum.inl (W (x1 + 1)))) else some (Sum.inr (Sum.inl ())))) fu 0).bind fun o => kS o fun (_ : Unit) => some (-1)
theorem mf {fu : Nat} {s1 : List aY} {v1 : aY} {r : Int} (h : eC fu s1 v1 = some r) : ai Tryz.prog 221 [.sl (s1.map cS), .str (sB v1)] (· = .int .i64 r) := by
 rw [eC] at h
 refine cf Tryz.func221 ?_
 refine ag (rv Z Z (rn (aS (ag (rg 2 rfl (rt ((lM cS s1)) (rv Z Z (rn (bx h fun e1 hl2 h_1 => aq (fun x => Sum.inl x = e1) (fun (_ : Unit) => ⟨[], [], [], 0⟩) ?_ ?_)))))))))
 ·clear h
  refine aB (be hl2 (fun (x1 : Int) => ⟨[(0, .sl (s1.map cS)), (1, .str (sB v1)), (7, .int .i64 (s1.length : Int)), (8, .int .i64 x1)], [], [], 0⟩) [] rfl zs ?_)
  intro x1 o5 ho3 hE4
  refine ch (ag (rv Z Z (rn (aS (bw rfl ho3 (fun ho3_1 => ?_) fun ho3_1 => ?_)))))
  ·clear ho3
   refine aK (aS (aB (ag (rg 2 rfl (rn (ag (rg 3 rfl (bx ho3_1 fun x3 hx6 ho3_2 => ri Z Z Z Z Z Z (iF hx6) (kG cS hx6) (wM (fun _ => by rfl) _) ?_))))))))
   refine rg 2 rfl (rt (jH v1 x3) (rn (bw rfl ho3_2 (fun ho3_3 => ?_) fun ho3_3 => ?_)))
   ·clear ho3_1 ho3_2
    refine ag (rg 2 rfl (rn (aT ?_)))
    cases ho3_3
    have hq := hE4 _ rfl
    subst hq
    have h_2 := n8 h_1
    subst h_2
    exact rF
   clear ho3_1 ho3_2
   exact aK (ah (aR (rg 2 rfl (rn (si ho3_3 ▸ lN [])))))
  clear ho3
  refine aW (xX ?_)
  cases ho3_1
  have hq := hE4 _ rfl
  subst hq
  exact cN []
 clear h
 rintro _ rfl
 have h_2 := ry h_1
 exact ag (rv Z Z (rn (aT (si h_2 ▸ rF))))
def bC (fu : Nat) (s1 : List aY) (v1 : aY) : Option Bool :=
 (eC fu s1 v1).bind fun x1 => some (decide (x1 ≥ 0))
theorem eg {fu : Nat} {s1 : List aY} {v1 : aY} {r : Bool} (h : bC fu s1 v1 = some r) : ai Tryz.prog 175 [.sl (s1.map cS), .str (sB v1)] (· = .bool r) := by
 rw [bC] at h
 refine cf Tryz.func175 ?_
 exact ag (rv Z Z (rn (ag (rg 2 rfl (bx h fun x1 hx1 h_1 => bt Z Z Z (mf hx1) (rg 2 rfl (rn (aT (si h_1 ▸ rF)))))))))
def gw (fu : Nat) (c1 : Int) : Option Bool :=
 bif (decide (c1 ≥ 97)) then ((some (decide (c1 ≤ 122))).bind fun x1 => some x1) else some false
theorem mU {fu : Nat} {c1 : Int} {r : Bool} (h : gw fu c1 = some r) : ai Tryz.prog 171 [.int .u8 c1] (· = .bool r) := by
 rw [gw] at h
 refine cf Tryz.func171 ?_
 refine ag (rv Z Z (rn (ag (rg 3 rfl (dN Z Z Z Z Z h (fun h_1 => ?_) fun h_1 => ?_)))))
 ·clear h
  refine rg 4 rfl ?_
  obtain ⟨x1, hx1, h_2⟩ := bs h_1
  exact rt (xh hx1) (rn (aT (si h_2 ▸ rF)))
 clear h
 exact rg 3 rfl (rn (aT (si h_1 ▸ rF)))
def fe (fu : Nat) (c1 : Int) : Option Bool :=
 bif (decide (c1 ≥ 48)) then some (decide (c1 ≤ 57)) else some false
theorem kb {fu : Nat} {c1 : Int} {r : Bool} (h : fe fu c1 = some r) : ai Tryz.prog 174 [.int .u8 c1] (· = .bool r) := by
 rw [fe] at h
 refine cf Tryz.func174 ?_
 refine ag (rv Z Z (rn (ag (rg 3 rfl (dN Z Z Z Z Z h (fun h_1 => ?_) fun h_1 => ?_)))))
 ·clear h
  exact rg 4 rfl (rn (aT (si h_1 ▸ rF)))
 clear h
 exact rg 3 rfl (rn (aT (si h_1 ▸ rF)))
def fP (fu : Nat) (s1 : aY) (is1 : Int → Option Bool) : Option Int :=
 (bm (ε := Int) (τ := Int) (fun (n1 : Int) => ((bif (decide (n1 < (s1.length : Int))) then ((gi s1 n1).bind fun c1 => (is1 (c1.toNat : Int)).bind fun x2 => some x2) else some false : Option Bool).bind fun (x1 : Bool) => (bif x1 then some (Sum.inl (W (n1 + 1))) else some (Sum.inr n1)))) fu 0).bind fun (n3 : Int) => some n3
theorem k7 {fu : Nat} {s1 : aY} {is1 : Int → Option Bool} {r : Int} {k_is1 : FuncId} {cs_is1 : List AV} (hl_is1 : Cl cs_is1) (hf_is1 : ∀ {a0 r}, is1 a0 = some r → ai Tryz.prog k_is1 ([.int .u8 a0] ++ cs_is1) (· = .bool r)) (h : fP fu s1 is1 = some r) : ai Tryz.prog 172 [.str (sB s1), .fn k_is1 cs_is1] (· = .int .i64 r) := by
 rw [fP] at h
 refine cf Tryz.func172 ?_
 refine ag (rv Z Z (rn (ag (rv Z Z (rn (aS (bx h fun e1 hl2 h_1 => aq (fun x => x = e1) (fun (n3 : Int) => ⟨[(5, .int .i64 n3)], [], [], 0⟩) ?_ ?_)))))))
 ·clear h
  refine aB (be hl2 (fun (n1 : Int) => ⟨[(0, .str (sB s1)), (1, .fn k_is1 cs_is1), (5, .int .i64 n1)], [], [], 0⟩) [] rfl ⟨rfl, rfl, zA Z Z Z (zA rfl (AV.ren_closed (.fn _ _) hl_is1.lim).symm (cE (Nat.zero_le _) _ hl_is1.lim) (zA Z Z Z (trivial))), trivial, trivial⟩ ?_)
  intro n1 o5 ho3 hE4
  refine ch (aS (aS (bx ho3 fun o6 ho7 ho3_1 => aq (fun x => x = o6) (fun (x1 : Bool) => ⟨[(0, .str (sB s1)), (1, .fn k_is1 cs_is1), (5, .int .i64 n1), (16, .bool x1)], [], [], 0⟩) ?_ ?_)))
  ·clear ho3
   refine aR (rg 5 rfl (dN Z Z Z Z Z ho7 (fun ho7_1 => ?_) fun ho7_1 => ?_))
   ·clear ho7
    refine nU Z Z (rg 2 rfl (gy Z Z Z (bx ho7_1 fun c1 hx8 ho7_2 => rV rfl (dw Z Z Z Z hx8) (gy Z Z Z (bx ho7_2 fun x2 hx9 ho7_3 => I1 Z Z hl_is1 rfl (hf_is1 hx9) (rv Z Z (rn ?_)))))))
    cases ho7_3
    exact DO [] Z Z ⟨rfl, rfl, zA Z Z Z (zA rfl (AV.ren_closed (.fn _ _) hl_is1.lim).symm (cE (Nat.zero_le _) _ hl_is1.lim) (zA Z Z Z (zA Z Z Z (trivial)))), trivial, trivial⟩
   clear ho7
   refine rg 5 rfl (rn ?_)
   cases ho7_1
   exact DO [] Z Z ⟨rfl, rfl, zA Z Z Z (zA rfl (AV.ren_closed (.fn _ _) hl_is1.lim).symm (cE (Nat.zero_le _) _ hl_is1.lim) (zA Z Z Z (zA Z Z Z (trivial)))), trivial, trivial⟩
  clear ho3
  rintro x1 rfl
  refine ch (bw rfl ho3_1 (fun ho3_2 => ?_) fun ho3_2 => ?_)
  ·clear ho3_1
   refine aK (aB (aR (rg 3 rfl (rn (ah ?_)))))
   cases ho3_2
   exact DH [] Z Z ⟨rfl, rfl, zA Z Z Z (zA rfl (AV.ren_closed (.fn _ _) hl_is1.lim).symm (cE (Nat.zero_le _) _ hl_is1.lim) (zA Z Z Z (trivial))), trivial, trivial⟩
  clear ho3_1
  refine aW (xX ?_)
  cases ho3_2
  have hq := hE4 _ rfl
  subst hq
  exact cN []
 clear h
 rintro n3 rfl
 exact ag (rg 2 rfl (rn (aT (si h_1 ▸ rF))))
def jP (fu : Nat)  : Option (List aY) :=
 some ([[97, 110, 100], [111, 114], [110, 111, 116], [105, 110], [116, 114, 117, 101]])
theorem sr {fu : Nat}  {r : List aY} (h : jP fu  = some r) : ai Tryz.prog 176 [] (· = .sl (r.map cS)) := by
 rw [jP] at h
 refine cf Tryz.func176 ?_
 exact ag (rv Z Z (rn (ag (mz false Z Z Z Z Z Z Z Z Z Z (rv Z Z (rn (aT (si h ▸ rF))))))))
def lZ (fu : Nat)  : Option (List aY) :=
 some ([[60, 61], [33, 61], [62, 61], [94, 61], [40], [41], [44], [60], [61], [62]])
theorem tl {fu : Nat}  {r : List aY} (h : lZ fu  = some r) : ai Tryz.prog 179 [] (· = .sl (r.map cS)) := by
 rw [lZ] at h
 refine cf Tryz.func179 ?_
 exact ag (rv Z Z (rn (ag (mz false Z Z Z Z Z Z Z Z Z Z (rv Z Z (rn (aT (si h ▸ rF))))))))
def io (fu : Nat) (c1 : Int) : Option Bool :=
 (gw fu c1).bind fun x1 => bif x1 then some true else ((fe fu c1).bind fun x2 => some x2)
theorem sY {fu : Nat} {c1 : Int} {r : Bool} (h : io fu c1 = some r) : ai Tryz.prog 173 [.int .u8 c1] (· = .bool r) := by
 rw [io] at h
 refine cf Tryz.func173 ?_
 refine ag (rv Z Z (rn (ag (rv Z Z (bx h fun x1 hx1 h_1 => bt Z Z Z (mU hx1) (rv Z Z (eN Z Z Z Z Z h_1 (fun h_2 => ?_) fun h_2 => ?_)))))))
 ·clear h h_1
  exact rv Z Z (gy Z Z Z (bx h_2 fun x2 hx2 h_3 => bt Z Z Z (kb hx2) (rg 2 rfl (rn (aT (si h_3 ▸ rF))))))
 clear h h_1
 exact rg 3 rfl (rn (aT (si h_2 ▸ rF)))
def iA (fu : Nat) (c1 : Int) : Option Bool :=
 bif (decide (c1 ≥ 32)) then (bif (decide (c1 ≤ 126)) then some (c1 != 34) else some false) else some false
theorem tO {fu : Nat} {c1 : Int} {r : Bool} (h : iA fu c1 = some r) : ai Tryz.prog 178 [.int .u8 c1] (· = .bool r) := by
 rw [iA] at h
 refine cf Tryz.func178 ?_
 refine ag (rv Z Z (rn (ag (rg 3 rfl (dN Z Z Z Z Z h (fun h_1 => ?_) fun h_1 => ?_)))))
 ·clear h
  refine rg 4 rfl (dN Z Z Z Z Z h_1 (fun h_2 => ?_) fun h_2 => ?_)
  ·clear h_1
   exact rg 4 rfl (rn (aT (si h_2 ▸ rF)))
  clear h_1
  exact rg 3 rfl (rn (aT (si h_2 ▸ rF)))
 clear h
 exact rg 7 rfl (rn (aT (si h_1 ▸ rF)))
def gI (fu : Nat) (s1 : aY) : Option (Int × Int) :=
 (dO fu s1 [45]).bind fun digits1 => (fP fu digits1 (fun x0 => fe fu x0)).bind fun n1 => (some (W ((W ((s1.length : Int) - (digits1.length : Int))) + n1))).bind fun all1 => (kC s1 0 all1).bind fun s2 => (iR fu s2).bind fun v1 => match v1 with | none => some (0, 0) | some v2 => ((bif (decide (n1 > 1)) then ((gi digits1 0).bind fun c1 => bif ((c1.toNat : Int) == 48) then some true else (bif (v2 == 0) then some (decide (all1 > n1)) else some false)) else (bif (v2 == 0) then some (decide (all1 > n1)) else some false) : Option Bool).bind fun (x1 : Bool) => (bif x1 then some (0, 0) else some (v2, all1)))
theorem rq {fu : Nat} {s1 : aY} {r : Int × Int} (h : gI fu s1 = some r) : ai Tryz.prog 177 [.str (sB s1)] (· = .tup [.int .i64 r.1, .int .i64 r.2]) := by
 rw [gI] at h
 refine cf Tryz.func177 ?_
 refine ag (rg 2 rfl (rn (ag (rv Z Z (bx h fun digits1 hx1 h_1 => bt Z Z Z (mK hx1) (rv Z Z (rn (ag (rv Z Z (bx h_1 fun n1 hx2 h_2 => bt Z Z Z (k7 ⟨rfl, fun _ => rfl⟩ (fun hq => kb hq) hx2) (rv Z Z (rn (ag (rg 8 rfl ?_))))))))))))))
 obtain ⟨all1, hx3, h_3⟩ := bs h_2
 refine rt (Ew hx3) (rn (ag (rg 2 rfl (bx h_3 fun s2 hx4 h_4 => rV rfl (gR Z Z Z Z ⟨_, rfl⟩ hx4) (bx h_4 fun v1 hx5 h_5 => ?_)))))
 obtain _ | v2 := v1
 ·clear h h_1 h_2 h_3 h_4
  exact bt Z Z Z (show ai Tryz.prog 223 [.str (sB s2), .int .i64 10, .int .i64 64] (· = .tup [.any, .iface 323 (.any)]) from qQ hx5) (rg 5 rfl (rn (aS (ag (rg 6 rfl (gu Z Z Z Z (gu Z Z Z Z (gu Z Z Z Z (rg 6 rfl (gu Z Z Z Z (gu Z Z Z Z (gu Z Z Z Z (rg 2 rfl (rn (ct rfl (ag (rg 2 rfl (rn (aT (si h_5 ▸ rF))))))))))))))))))))
 clear h h_1 h_2 h_3 h_4
 refine bt Z Z Z (show ai Tryz.prog 223 [.str (sB s2), .int .i64 10, .int .i64 64] (· = .tup [.int .i64 v2, .nilI]) from qQ hx5) (rg 5 rfl (rn (aS (aS (bx h_5 fun o6 ho7 h_6 => aq (fun x => x = o6) (fun (x1 : Bool) => ⟨[(6, .int .i64 all1), (7, .int .i64 v2), (46, .bool x1)], [], [], 0⟩) ?_ ?_)))))
 ·clear h_5
  refine aR (rg 6 rfl (dN Z Z Z Z Z ho7 (fun ho7_1 => ?_) fun ho7_1 => ?_))
  ·clear ho7
   refine rv Z Z (gy Z Z Z (bx ho7_1 fun c1 hx8 ho7_2 => rV rfl (dw Z Z Z Z hx8) (rg 4 rfl (eN Z Z Z Z Z ho7_2 (fun ho7_3 => ?_) fun ho7_3 => ?_))))
   ·clear ho7_1 ho7_2
    refine rg 3 rfl (dN Z Z Z Z Z ho7_3 (fun ho7_4 => ?_) fun ho7_4 => ?_)
    ·clear ho7_3
     exact rg 5 rfl (rn (si ho7_4 ▸ cN []))
    clear ho7_3
    exact rg 4 rfl (rn (si ho7_4 ▸ cN []))
   clear ho7_1 ho7_2
   exact rg 2 rfl (gu Z Z Z Z (gu Z Z Z Z (gu Z Z Z Z (rg 2 rfl (rn (si ho7_3 ▸ cN []))))))
  clear ho7
  refine rg 8 rfl (dN Z Z Z Z Z ho7_1 (fun ho7_2 => ?_) fun ho7_2 => ?_)
  ·clear ho7_1
   exact rg 5 rfl (rn (si ho7_2 ▸ cN []))
  clear ho7_1
  exact rg 4 rfl (rn (si ho7_2 ▸ cN []))
 clear h_5
 rintro x1 rfl
 refine ch (bw rfl h_6 (fun h_7 => ?_) fun h_7 => ?_)
 ·clear h_6
  exact ag (rg 2 rfl (rn (aT (si h_7 ▸ rF))))
 clear h_6
 exact aK (ag (rg 4 rfl (rn (aT (si h_7 ▸ rF)))))
def iI (fu : Nat) (s1 : aY) : Option (ax × Int) :=
 (gi s1 0).bind fun c1 => (gw fu (c1.toNat : Int)).bind fun x1 => bif x1 then ((fP fu s1 (fun x0 => io fu x0)).bind fun n1 => (kC s1 0 n1).bind fun s2 => (jP fu ).bind fun x2 => (bC fu x2 s2).bind fun x3 => (bif x3 then some 2 else some 1 : Option Int).bind fun (t1 : Int) => ((bif (decide (n1 > 20)) then some 0 else some n1 : Option Int).bind fun (n2 : Int) => some ((ax.mk t1 0 0 s2), n2))) else (((fe fu (c1.toNat : Int)).bind fun x5 => bif x5 then some true else some ((c1.toNat : Int) == 45) : Option Bool).bind fun (x4 : Bool) => (bif x4 then ((gI fu s1).bind fun v1 => some ((ax.mk 3 0 v1.1 []), v1.2)) else (bif ((c1.toNat : Int) == 34) then ((kC s1 1 (s1.length : Int)).bind fun s3 => (fP fu s3 (fun x0 => iA fu x0)).bind fun n3 => (bif (decide (n3 > 200)) then some true else (bif (decide ((W (n3 + 1)) ≥ (s1.length : Int))) then some true else ((gi s1 (W (n3 + 1))).bind fun c2 => some ((c2.toNat : Int) != 34))) : Option Bool).bind fun (x6 : Bool) => (bif x6 then some ((ax.mk 0 0 0 []), 0) else ((kC s1 1 (W (n3 + 1))).bind fun s4 => some ((ax.mk 4 0 0 s4), W (n3 + 2))))) else ((lZ fu ).bind fun x7 => (bm (ε := Int) (τ := Unit ⊕ (ax × Int)) (fun (x8 : Int) => (bif (decide (x8 < (x7.length : Int))) then ((gi x7 x8).bind fun x10 => (bW fu s1 x10).bind fun x11 => bif x11 then ((some ((x10.length : Int))).bind fun x12 => some (Sum.inr (Sum.inr ((ax.mk 5 0 0 x10), x12)))) else some (Sum.inl (W (x8 + 1)))) else some (Sum.inr (Sum.inl ())))) fu 0).bind fun o => kS o fun (_ : Unit) => some ((ax.mk 0 0 0 []), 0)))))
theorem wU {fu : Nat} {s1 : aY} {r : ax × Int} (h : iI fu s1 = some r) : ai Tryz.prog 123 [.str (sB s1)] (· = .tup [.agg [.int .i64 r.1.Kind, .int .i64 r.1.At, .int .i64 r.1.N, .str (sB r.1.S)], .int .i64 r.2]) := by
 rw [iI] at h
 refine cf Tryz.func123 ?_
 refine ag (ra Z Z Z (rv Z Z (rn (aS (ag (rv Z Z (bx h fun c1 hx1 h_1 => rV rfl (dw Z Z Z Z hx1) (rv Z Z (rn (aB (ag (rv Z Z (bx h_1 fun x1 hx2 h_2 => bt Z Z Z (mU hx2) (rv Z Z (rn (bw rfl h_2 (fun h_3 => ?_) fun h_3 => ?_))))))))))))))))
 ·clear h h_1 h_2
  refine ag (rv Z Z (bx h_3 fun n1 hx3 h_4 => bt Z Z Z (k7 ⟨rfl, fun _ => rfl⟩ (fun hq => sY hq) hx3) (rv Z Z (rn (ag (rg 2 rfl (bx h_4 fun s2 hx4 h_5 => rV rfl (gR Z Z Z Z ⟨_, rfl⟩ hx4) (rv Z Z (ra Z Z Z (rs Z Z Z Z Z Z Z (rn (aS (aS (mw 4 Tryz.mix (bx h_5 fun x2 hx5 h_6 => dc Z Z Z Z (fun _ => rfl) (fun _ => (sr hx5)) (dv Z Z (fun _ => rfl) (dv Z Z (fun _ => rfl) (bx h_6 fun x3 hx6 h_7 => dc Z Z Z Z (fun _ => rfl) (fun _ => (eg hx6)) (dn (rn (bx h_7 fun o7 ho8 h_8 => aq (fun x => x = o7) (fun (t1 : Int) => ⟨[(2, .ptr 0 0), (5, .int .i64 n1), (6, .ptr 1 0)], [(0, 0, .int .i64 0), (0, 1, .int .i64 0), (0, 2, .int .i64 0), (0, 3, .str (sB [])), (1, 0, .int .i64 t1), (1, 1, .int .i64 0), (1, 2, .int .i64 0), (1, 3, .str (sB s2))], [], 2⟩) ?_ ?_)))))))))))))))))))))
  ·clear h_3 h_4 h_5 h_6 h_7
   refine bw rfl ho8 (fun ho8_1 => ?_) fun ho8_1 => ?_
   ·clear ho8
    exact aR (rv Z Z (rs Z Z Z Z Z Z Z (rn (si ho8_1 ▸ cN [0,1]))))
   clear ho8
   exact aK (si ho8_1 ▸ cN [0,1])
  clear h_3 h_4 h_5 h_6 h_7
  rintro t1 rfl
  refine ch (aS (ag (rg 2 rfl (rn (bx h_8 fun o9 ho10 h_9 => aq (fun x => x = o9) (fun (n2 : Int) => ⟨[(2, .ptr 0 0), (5, .int .i64 n2), (6, .ptr 1 0)], [(0, 0, .int .i64 0), (0, 1, .int .i64 0), (0, 2, .int .i64 0), (0, 3, .str (sB [])), (1, 0, .int .i64 t1), (1, 1, .int .i64 0), (1, 2, .int .i64 0), (1, 3, .str (sB s2))], [], 2⟩) ?_ ?_)))))
  ·clear h_8
   refine bw rfl ho10 (fun ho10_1 => ?_) fun ho10_1 => ?_
   ·clear ho10
    exact aR (rv Z Z (rn (si ho10_1 ▸ cN [0,1])))
   clear ho10
   exact aK (si ho10_1 ▸ cN [0,1])
  clear h_8
  rintro n2 rfl
  exact ch (ag (rg 2 rfl (rs Z Z Z Z Z Z Z (rv Z Z (rn (aT (si h_9 ▸ rF)))))))
 clear h h_1 h_2
 refine aS (bx h_3 fun o11 ho12 h_4 => aq (fun x => x = o11) (fun (x4 : Bool) => ⟨[(0, .str (sB s1)), (2, .ptr 0 0), (4, .int .u8 (c1.toNat : Int)), (32, .bool x4)], [(0, 0, .int .i64 0), (0, 1, .int .i64 0), (0, 2, .int .i64 0), (0, 3, .str (sB []))], [], 1⟩) ?_ ?_)
 ·clear h_3
  refine aR (rv Z Z (bx ho12 fun x5 hx13 ho12_1 => bt Z Z Z (kb hx13) (rv Z Z (eN Z Z Z Z Z ho12_1 (fun ho12_2 => ?_) fun ho12_2 => ?_))))
  ·clear ho12 ho12_1
   exact rg 4 rfl (rn (si ho12_2 ▸ cN [0]))
  clear ho12 ho12_1
  exact rg 3 rfl (rn (si ho12_2 ▸ cN [0]))
 clear h_3
 rintro x4 rfl
 refine ch (bw rfl h_4 (fun h_5 => ?_) fun h_5 => ?_)
 ·clear h_4
  exact ag (rv Z Z (bx h_5 fun v1 hx14 h_6 => bt Z Z Z (rq hx14) (rg 5 rfl (rn (ag (rg 3 rfl (rs Z Z Z Z Z Z Z (rv Z Z (rn (aT (si h_6 ▸ rF)))))))))))
 clear h_4
 refine ag (rg 3 rfl (rn (bw rfl h_5 (fun h_6 => ?_) fun h_6 => ?_)))
 ·clear h_5
  refine ag (rv Z Z (bx h_6 fun s3 hx15 h_7 => rV rfl (gR Z Z Z ⟨_, rfl⟩ rfl hx15) (bx h_7 fun n3 hx16 h_8 => bt Z Z Z (k7 ⟨rfl, fun _ => rfl⟩ (fun hq => tO hq) hx16) (rv Z Z (rn (aS (aS (bx h_8 fun o17 ho18 h_9 => aq (fun x => x = o17) (fun (x6 : Bool) => ⟨[(0, .str (sB s1)), (2, .ptr 0 0), (9, .int .i64 n3), (68, .bool x6)], [(0, 0, .int .i64 0), (0, 1, .int .i64 0), (0, 2, .int .i64 0), (0, 3, .str (sB []))], [], 1⟩) ?_ ?_))))))))
  ·clear h_6 h_7 h_8
   refine aR (rg 3 rfl (eN Z Z Z Z Z ho18 (fun ho18_1 => ?_) fun ho18_1 => ?_))
   ·clear ho18
    refine rg 7 rfl (eN Z Z Z Z Z ho18_1 (fun ho18_2 => ?_) fun ho18_2 => ?_)
    ·clear ho18_1
     exact rg 3 rfl (gy Z Z Z (bx ho18_2 fun c2 hx19 ho18_3 => rV rfl (dw Z Z Z Z hx19) (rg 2 rfl (rn (si ho18_3 ▸ cN [0])))))
    clear ho18_1
    exact rg 5 rfl (rn (si ho18_2 ▸ cN [0]))
   clear ho18
   exact rg 12 rfl (rn (si ho18_1 ▸ cN [0]))
  clear h_6 h_7 h_8
  rintro x6 rfl
  refine ch (bw rfl h_9 (fun h_10 => ?_) fun h_10 => ?_)
  ·clear h_9
   exact ag (rv Z Z (rs Z Z Z Z Z Z Z (rv Z Z (rn (aT (si h_10 ▸ rF))))))
  clear h_9
  exact aK (ag (rg 3 rfl (bx h_10 fun s4 hx20 h_11 => rV rfl (gR Z Z Z ⟨_, rfl⟩ ⟨_, rfl⟩ hx20) (rg 3 rfl (rs Z Z Z Z Z Z Z (rv Z Z (rn (aT (si h_11 ▸ rF)))))))))
 clear h_5
 refine aK (ah (aS (ag (bx h_6 fun x7 hx21 h_7 => bt Z Z Z (tl hx21) (rv Z Z (rt ((lM cS x7)) (rv Z Z (rn (bx h_7 fun e22 hl23 h_8 => aq (fun x => Sum.inl x = e22) (fun (_ : Unit) => ⟨[(2, .ptr 0 0)], [(0, 0, .int .i64 0), (0, 1, .int .i64 0), (0, 2, .int .i64 0), (0, 3, .str (sB []))], [], 1⟩) ?_ ?_)))))))))
 ·clear h_6 h_7
  refine aB (be hl23 (fun (x8 : Int) => ⟨[(0, .str (sB s1)), (2, .ptr 0 0), (77, .sl (x7.map cS)), (78, .int .i64 (x7.length : Int)), (79, .int .i64 x8)], [(0, 0, .int .i64 0), (0, 1, .int .i64 0), (0, 2, .int .i64 0), (0, 3, .str (sB []))], [], 1⟩) [0] rfl zs ?_)
  intro x8 o26 ho24 hE25
  refine ch (ag (rv Z Z (rn (aS (bw rfl ho24 (fun ho24_1 => ?_) fun ho24_1 => ?_)))))
  ·clear ho24
   refine aK (aS (aB (ag (bx ho24_1 fun x10 hx27 ho24_2 => ri Z Z Z Z Z Z (iF hx27) (kG cS hx27) (wM (fun _ => by rfl) _) ?_))))
   refine rg 2 rfl (rn (ag (rg 2 rfl (bx ho24_2 fun x11 hx28 ho24_3 => bt Z Z Z (js hx28) (rn (bw rfl ho24_3 (fun ho24_4 => ?_) fun ho24_4 => ?_))))))
   ·clear ho24_1 ho24_2 ho24_3
    refine ag (rg 4 rfl (rs Z Z Z Z Z Z Z (rv Z Z ?_)))
    obtain ⟨x12, hx29, ho24_5⟩ := bs ho24_4
    refine rt (Ew hx29) (rn (aT ?_))
    cases ho24_5
    have hq := hE25 _ rfl
    subst hq
    have h_9 := n8 h_8
    subst h_9
    exact rF
   clear ho24_1 ho24_2 ho24_3
   exact aK (ah (aR (rg 2 rfl (rn (si ho24_4 ▸ lN [0])))))
  clear ho24
  refine aW (xX ?_)
  cases ho24_1
  have hq := hE25 _ rfl
  subst hq
  exact cN [0]
 clear h_6 h_7
 rintro _ rfl
 have h_9 := ry h_8
 exact ag (rv Z Z (rs Z Z Z Z Z Z Z (rv Z Z (rn (aT (si h_9 ▸ rF))))))
def iU (fu : Nat) (s1 : aY) : Option ((List ax) × Er) :=
 bif (decide ((s1.length : Int) > 500)) then some ([], (some 5)) else ((bm (ε := Int × (List ax)) (τ := (List ax) ⊕ ((List ax) × Er)) (fun (((at1, out1)) : Int × (List ax)) => (bif (decide (at1 < (s1.length : Int))) then ((gi s1 at1).bind fun c1 => bif ((c1.toNat : Int) == 32) then some (Sum.inl (W (at1 + 1), out1)) else ((kC s1 at1 (s1.length : Int)).bind fun s2 => (iI fu s2).bind fun n1 => bif (n1.2 == 0) then some (Sum.inr (Sum.inr ([], (some 2)))) else ((ap out1 [(ax.mk n1.1.Kind at1 n1.1.N n1.1.S)]).bind fun out4 => some (Sum.inl (W (at1 + n1.2), out4))))) else some (Sum.inr (Sum.inl out1)))) fu (0, [])).bind fun o => kS o fun (out3 : List ax) => some (out3, none))
theorem pH {fu : Nat} {s1 : aY} {r : (List ax) × Er} (h : iU fu s1 = some r) : ai Tryz.prog 77 [.str (sB s1)] (· = .tup [.sl (r.1.map aA), .err 55 r.2]) := by
 rw [iU] at h
 refine cf Tryz.func77 ?_
 refine ag (rg 2 rfl (rn (aS (ag (rg 3 rfl (rn (bw rfl h (fun h_1 => ?_) fun h_1 => ?_)))))))
 ·clear h
  exact ag (rg 3 rfl (rn (aQ (fun _ _ _ _ _ hi => dF 55 3 (some 5) rfl hi) (aT (si h_1 ▸ rF)))))
 clear h
 refine aK (ag (rv Z Z (rn (aS (ag (rv Z Z (rn (aQ (fun _ _ _ _ _ hi => nH false 4 4 rfl hi) (bx h_1 fun e1 hl2 h_2 => aq (fun x => Sum.inl x = e1) (fun (out3 : List ax) => ⟨[(4, .own 0)], [], [(0, .row 4 (out3.map aA))], 1⟩) ?_ ?_)))))))))
 ·clear h_1
  refine aB (be hl2 (fun (((at1, out1)) : Int × (List ax)) => ⟨[(0, .str (sB s1)), (4, .own 0), (5, .int .i64 at1)], [], [(0, .row 4 (out1.map aA))], 1⟩) [0] rfl zs ?_)
  intro v o5 ho3 hE4
  obtain ⟨at1, out1⟩ := v
  refine ch (aS (ag (rg 4 rfl (rn (bw rfl ho3 (fun ho3_1 => ?_) fun ho3_1 => ?_)))))
  ·clear ho3
   refine aK (aB (aS (ag (rg 2 rfl (bx ho3_1 fun c1 hx6 ho3_2 => rV rfl (dw Z Z Z Z hx6) (rv Z Z (rn (bw rfl ho3_2 (fun ho3_3 => ?_) fun ho3_3 => ?_))))))))
   ·clear ho3_1 ho3_2
    refine ag (rg 3 rfl (rn (aW (xX ?_))))
    exact si ho3_3 ▸ lN [0]
   clear ho3_1 ho3_2
   refine aK (ag (rg 2 rfl (bx ho3_3 fun s2 hx7 ho3_4 => rV rfl (gR Z Z Z ⟨_, rfl⟩ rfl hx7) (bx ho3_4 fun n1 hx8 ho3_5 => bt Z Z Z (wU hx8) (rg 3 rfl (ra Z Z Z (rs Z Z Z Z Z Z Z (rv Z Z (rn (aS (ag (rg 2 rfl (rn (bw rfl ho3_5 (fun ho3_6 => ?_) fun ho3_6 => ?_))))))))))))))
   ·clear ho3_3 ho3_4 ho3_5
    refine ag (rg 3 rfl (rn (aQ (fun _ _ _ _ _ hi => dF 55 3 (some 2) rfl hi) (aT ?_))))
    cases ho3_6
    have hq := hE4 _ rfl
    subst hq
    have h_3 := n8 h_2
    subst h_3
    exact rF
   clear ho3_3 ho3_4 ho3_5
   refine aK (ag (rg 2 rfl (rs Z Z Z Z Z Z Z (rn (aR (rg 2 rfl (mz false Z Z Z Z Z Z Z Z Z Z (bx ho3_6 fun out4 hx9 ho3_7 => pu false (z := 4) (xs := out1.map aA) (ys := [(ax.mk n1.1.Kind at1 n1.1.N n1.1.S)].map aA) Z Z Z Z Z Z Z (.own Z Z) (.sl Z Z Z) (wM (fun _ => by rfl) _) (oM (fun _ => by rfl) _) (wA aA rfl hx9) rfl ?_))))))))
   exact rk (congrArg (Kind.row _) (wR aA hx9)) (rg 5 rfl (rn (ah (si ho3_7 ▸ lN [3]))))
  clear ho3
  refine aW (xX ?_)
  cases ho3_1
  have hq := hE4 _ rfl
  subst hq
  exact cN [0]
 clear h_1
 rintro out3 rfl
 have h_3 := ry h_2
 exact ag (rg 3 rfl (rn (aQ (fun _ _ _ _ _ hi => dF 55 3 none rfl hi) (aT (si h_3 ▸ rF)))))
end
structure aj where
 L : List ax
 Bad : Bool
def cH (fu : Nat) (s1 : List aa) (f1 : aa → Option Bool) : Option Int :=
 (bm (ε := Int) (τ := Unit ⊕ Int) (fun (x1 : Int) => (bif (decide (x1 < (s1.length : Int))) then ((gi s1 x1).bind fun x3 => match x3 with | .mk kind1 name1 op1 vals1 l1 => (f1 (aa.mk kind1 name1 op1 vals1 l1)).bind fun x4 => bif x4 then some (Sum.inr (Sum.inr x1)) else some (Sum.inl (W (x1 + 1)))) else some (Sum.inr (Sum.inl ())))) fu 0).bind fun o => kS o fun (_ : Unit) => some (-1)
section
attribute [local irreducible] cg aM DP ai aP Decidable.decide
theorem j8 {fu : Nat} {s1 : List aa} {f1 : aa → Option Bool} {r : Int} {k_f1 : FuncId} {cs_f1 : List AV} (hl_f1 : Cl cs_f1) (hf_f1 : ∀ {a0 r}, f1 a0 = some r → ai Tryz.prog k_f1 ([.agg (bd a0)] ++ cs_f1) (· = .bool r)) (h : cH fu s1 f1 = some r) : ai Tryz.prog 153 [.sl (am s1), .fn k_f1 cs_f1] (· = .int .i64 r) := by
 rw [cH] at h
 refine cf Tryz.func153 ?_
 refine ag (rv Z Z (rn (aS (ag (rg 2 rfl (rt ((cp s1)) (rv Z Z (rn (bx h fun e1 hl2 h_1 => aq (fun x => Sum.inl x = e1) (fun (_ : Unit) => ⟨[], [], [], 0⟩) ?_ ?_)))))))))
 ·clear h
  refine aB (be hl2 (fun (x1 : Int) => ⟨[(0, .sl (am s1)), (1, .fn k_f1 cs_f1), (7, .int .i64 (s1.length : Int)), (8, .int .i64 x1)], [], [], 0⟩) [] rfl ⟨rfl, rfl, zA Z Z Z (zA rfl (AV.ren_closed (.fn _ _) hl_f1.lim).symm (cE (Nat.zero_le _) _ hl_f1.lim) (zA Z Z Z (zA Z Z Z (trivial)))), trivial, trivial⟩ ?_)
  intro x1 o5 ho3 hE4
  refine ch (ag (rv Z Z (rn (aS (bw rfl ho3 (fun ho3_1 => ?_) fun ho3_1 => ?_)))))
  ·clear ho3
   refine aK (aS (aB (ag (rg 2 rfl (rn (ag (nU Z Z (rg 2 rfl (bx ho3_1 fun x3 hx6 ho3_2 => ri Z Z Z Z Z Z (iF hx6) (dB hx6) (bK _) ?_)))))))))
   obtain ⟨kind1, name1, op1, vals1, l1⟩ := x3
   refine rv Z Z (bx ho3_2 fun x4 hx7 ho3_3 => I1 Z Z hl_f1 rfl (hf_f1 hx7) (rn (bw rfl ho3_3 (fun ho3_4 => ?_) fun ho3_4 => ?_)))
   ·clear ho3_1 ho3_2 ho3_3
    refine ag (rg 2 rfl (rn (aT ?_)))
    cases ho3_4
    have hq := hE4 _ rfl
    subst hq
    have h_2 := n8 h_1
    subst h_2
    exact rF
   clear ho3_1 ho3_2 ho3_3
   refine aK (ah (aR (rg 2 rfl (rn ?_))))
   cases ho3_4
   exact DH [] Z Z ⟨rfl, rfl, zA Z Z Z (zA rfl (AV.ren_closed (.fn _ _) hl_f1.lim).symm (cE (Nat.zero_le _) _ hl_f1.lim) (zA Z Z Z (zA Z Z Z (trivial)))), trivial, trivial⟩
  clear ho3
  refine aW (xX ?_)
  cases ho3_1
  have hq := hE4 _ rfl
  subst hq
  exact cN []
 clear h
 rintro _ rfl
 have h_2 := ry h_1
 exact ag (rv Z Z (rn (aT (si h_2 ▸ rF))))
def bv (fu : Nat) (s1 : List aa) (f1 : aa → Option Bool) : Option Bool :=
 (cH fu s1 f1).bind fun x1 => some (decide (x1 ≥ 0))
theorem cC {fu : Nat} {s1 : List aa} {f1 : aa → Option Bool} {r : Bool} {k_f1 : FuncId} {cs_f1 : List AV} (hl_f1 : Cl cs_f1) (hf_f1 : ∀ {a0 r}, f1 a0 = some r → ai Tryz.prog k_f1 ([.agg (bd a0)] ++ cs_f1) (· = .bool r)) (h : bv fu s1 f1 = some r) : ai Tryz.prog 103 [.sl (am s1), .fn k_f1 cs_f1] (· = .bool r) := by
 rw [bv] at h
 refine cf Tryz.func103 ?_
 exact ag (rv Z Z (rn (ag (rv Z Z (nU Z Z (bx h fun x1 hx1 h_1 => JA Z Z (congrArg (fun z => ([.sl (am s1), .fn k_f1 z] : List AV)) (hl_f1.snap _)) (by simp only [dT, AV.lim, hl_f1.lim, Bool.and_true, Bool.true_and]; try rfl) (j8 hl_f1 hf_f1 hx1) (rg 2 rfl (rn (aT (si h_1 ▸ rF))))))))))
def cz (fu : Nat) (s1 : List aI) (f1 : aI → Option Bool) : Option Int :=
 (bm (ε := Int) (τ := Unit ⊕ Int) (fun (x1 : Int) => (bif (decide (x1 < (s1.length : Int))) then ((gi s1 x1).bind fun x3 => (f1 x3).bind fun x4 => bif x4 then some (Sum.inr (Sum.inr x1)) else some (Sum.inl (W (x1 + 1)))) else some (Sum.inr (Sum.inl ())))) fu 0).bind fun o => kS o fun (_ : Unit) => some (-1)
theorem gE {fu : Nat} {s1 : List aI} {f1 : aI → Option Bool} {r : Int} {k_f1 : FuncId} {cs_f1 : List AV} (hl_f1 : Cl cs_f1) (hf_f1 : ∀ {a0 r}, f1 a0 = some r → ai Tryz.prog k_f1 ([.agg [.str (sB a0.Name), .bool a0.Text, .int .i64 a0.N, .str (sB a0.S)]] ++ cs_f1) (· = .bool r)) (h : cz fu s1 f1 = some r) : ai Tryz.prog 210 [.sl (s1.map au), .fn k_f1 cs_f1] (· = .int .i64 r) := by
 rw [cz] at h
 refine cf Tryz.func210 ?_
 refine ag (rv Z Z (rn (aS (ag (rg 2 rfl (rt ((lM au s1)) (rv Z Z (rn (bx h fun e1 hl2 h_1 => aq (fun x => Sum.inl x = e1) (fun (_ : Unit) => ⟨[], [], [], 0⟩) ?_ ?_)))))))))
 ·clear h
  refine aB (be hl2 (fun (x1 : Int) => ⟨[(0, .sl (s1.map au)), (1, .fn k_f1 cs_f1), (7, .int .i64 (s1.length : Int)), (8, .int .i64 x1)], [], [], 0⟩) [] rfl ⟨rfl, rfl, zA Z Z Z (zA rfl (AV.ren_closed (.fn _ _) hl_f1.lim).symm (cE (Nat.zero_le _) _ hl_f1.lim) (zA Z Z Z (zA Z Z Z (trivial)))), trivial, trivial⟩ ?_)
  intro x1 o5 ho3 hE4
  refine ch (ag (rv Z Z (rn (aS (bw rfl ho3 (fun ho3_1 => ?_) fun ho3_1 => ?_)))))
  ·clear ho3
   refine aK (aS (aB (ag (rg 2 rfl (rn (ag (nU Z Z (rg 2 rfl (bx ho3_1 fun x3 hx6 ho3_2 => ri Z Z Z Z Z Z (iF hx6) (kG au hx6) (wM (fun _ => by rfl) _) ?_)))))))))
   refine rv Z Z (bx ho3_2 fun x4 hx7 ho3_3 => I1 Z Z hl_f1 rfl (hf_f1 hx7) (rn (bw rfl ho3_3 (fun ho3_4 => ?_) fun ho3_4 => ?_)))
   ·clear ho3_1 ho3_2 ho3_3
    refine ag (rg 2 rfl (rn (aT ?_)))
    cases ho3_4
    have hq := hE4 _ rfl
    subst hq
    have h_2 := n8 h_1
    subst h_2
    exact rF
   clear ho3_1 ho3_2 ho3_3
   refine aK (ah (aR (rg 2 rfl (rn ?_))))
   cases ho3_4
   exact DH [] Z Z ⟨rfl, rfl, zA Z Z Z (zA rfl (AV.ren_closed (.fn _ _) hl_f1.lim).symm (cE (Nat.zero_le _) _ hl_f1.lim) (zA Z Z Z (zA Z Z Z (trivial)))), trivial, trivial⟩
  clear ho3
  refine aW (xX ?_)
  cases ho3_1
  have hq := hE4 _ rfl
  subst hq
  exact cN []
 clear h
 rintro _ rfl
 have h_2 := ry h_1
 exact ag (rv Z Z (rn (aT (si h_2 ▸ rF))))
def bV (fu : Nat) (s1 : List aI) (f1 : aI → Option Bool) : Option Bool :=
 (cz fu s1 f1).bind fun x1 => some (decide (x1 ≥ 0))
theorem fL {fu : Nat} {s1 : List aI} {f1 : aI → Option Bool} {r : Bool} {k_f1 : FuncId} {cs_f1 : List AV} (hl_f1 : Cl cs_f1) (hf_f1 : ∀ {a0 r}, f1 a0 = some r → ai Tryz.prog k_f1 ([.agg [.str (sB a0.Name), .bool a0.Text, .int .i64 a0.N, .str (sB a0.S)]] ++ cs_f1) (· = .bool r)) (h : bV fu s1 f1 = some r) : ai Tryz.prog 159 [.sl (s1.map au), .fn k_f1 cs_f1] (· = .bool r) := by
 rw [bV] at h
 refine cf Tryz.func159 ?_
 exact ag (rv Z Z (rn (ag (rv Z Z (nU Z Z (bx h fun x1 hx1 h_1 => JA Z Z (congrArg (fun z => ([.sl (s1.map au), .fn k_f1 z] : List AV)) (hl_f1.snap _)) (by simp only [dT, AV.lim, hl_f1.lim, Bool.and_true, Bool.true_and]; try rfl) (gE hl_f1 hf_f1 hx1) (rg 2 rfl (rn (aT (si h_1 ▸ rF))))))))))
def cV (fu : Nat) (s1 : aY) (f1 : Int → Option Bool) : Option Int :=
 (bm (ε := Int) (τ := Unit ⊕ Int) (fun (x1 : Int) => (bif (decide (x1 < (s1.length : Int))) then ((gi s1 x1).bind fun x3 => (f1 (x3.toNat : Int)).bind fun x4 => bif x4 then some (Sum.inr (Sum.inr x1)) else some (Sum.inl (W (x1 + 1)))) else some (Sum.inr (Sum.inl ())))) fu 0).bind fun o => kS o fun (_ : Unit) => some (-1)
theorem lj {fu : Nat} {s1 : aY} {f1 : Int → Option Bool} {r : Int} {k_f1 : FuncId} {cs_f1 : List AV} (hl_f1 : Cl cs_f1) (hf_f1 : ∀ {a0 r}, f1 a0 = some r → ai Tryz.prog k_f1 ([.int .u8 a0] ++ cs_f1) (· = .bool r)) (h : cV fu s1 f1 = some r) : ai Tryz.prog 307 [.sl (s1.map HO), .fn k_f1 cs_f1] (· = .int .i64 r) := by
 rw [cV] at h
 refine cf Tryz.func307 ?_
 refine ag (rv Z Z (rn (aS (ag (rg 2 rfl (rt ((lM HO s1)) (rv Z Z (rn (bx h fun e1 hl2 h_1 => aq (fun x => Sum.inl x = e1) (fun (_ : Unit) => ⟨[], [], [], 0⟩) ?_ ?_)))))))))
 ·clear h
  refine aB (be hl2 (fun (x1 : Int) => ⟨[(0, .sl (s1.map HO)), (1, .fn k_f1 cs_f1), (7, .int .i64 (s1.length : Int)), (8, .int .i64 x1)], [], [], 0⟩) [] rfl ⟨rfl, rfl, zA Z Z Z (zA rfl (AV.ren_closed (.fn _ _) hl_f1.lim).symm (cE (Nat.zero_le _) _ hl_f1.lim) (zA Z Z Z (zA Z Z Z (trivial)))), trivial, trivial⟩ ?_)
  intro x1 o5 ho3 hE4
  refine ch (ag (rv Z Z (rn (aS (bw rfl ho3 (fun ho3_1 => ?_) fun ho3_1 => ?_)))))
  ·clear ho3
   refine aK (aS (aB (ag (rg 2 rfl (rn (ag (nU Z Z (rg 2 rfl (bx ho3_1 fun x3 hx6 ho3_2 => ri Z Z Z Z Z Z (iF hx6) (kG HO hx6) (wM (fun _ => by rfl) _) ?_)))))))))
   refine rv Z Z (bx ho3_2 fun x4 hx7 ho3_3 => I1 Z Z hl_f1 rfl (hf_f1 hx7) (rn (bw rfl ho3_3 (fun ho3_4 => ?_) fun ho3_4 => ?_)))
   ·clear ho3_1 ho3_2 ho3_3
    refine ag (rg 2 rfl (rn (aT ?_)))
    cases ho3_4
    have hq := hE4 _ rfl
    subst hq
    have h_2 := n8 h_1
    subst h_2
    exact rF
   clear ho3_1 ho3_2 ho3_3
   refine aK (ah (aR (rg 2 rfl (rn ?_))))
   cases ho3_4
   exact DH [] Z Z ⟨rfl, rfl, zA Z Z Z (zA rfl (AV.ren_closed (.fn _ _) hl_f1.lim).symm (cE (Nat.zero_le _) _ hl_f1.lim) (zA Z Z Z (zA Z Z Z (trivial)))), trivial, trivial⟩
  clear ho3
  refine aW (xX ?_)
  cases ho3_1
  have hq := hE4 _ rfl
  subst hq
  exact cN []
 clear h
 rintro _ rfl
 have h_2 := ry h_1
 exact ag (rv Z Z (rn (aT (si h_2 ▸ rF))))
def dj (fu : Nat) (s1 : aY) (f1 : Int → Option Bool) : Option Bool :=
 (cV fu s1 f1).bind fun x1 => some (decide (x1 ≥ 0))
theorem jS {fu : Nat} {s1 : aY} {f1 : Int → Option Bool} {r : Bool} {k_f1 : FuncId} {cs_f1 : List AV} (hl_f1 : Cl cs_f1) (hf_f1 : ∀ {a0 r}, f1 a0 = some r → ai Tryz.prog k_f1 ([.int .u8 a0] ++ cs_f1) (· = .bool r)) (h : dj fu s1 f1 = some r) : ai Tryz.prog 301 [.sl (s1.map HO), .fn k_f1 cs_f1] (· = .bool r) := by
 rw [dj] at h
 refine cf Tryz.func301 ?_
 exact ag (rv Z Z (rn (ag (rv Z Z (nU Z Z (bx h fun x1 hx1 h_1 => JA Z Z (congrArg (fun z => ([.sl (s1.map HO), .fn k_f1 z] : List AV)) (hl_f1.snap _)) (by simp only [dT, AV.lim, hl_f1.lim, Bool.and_true, Bool.true_and]; try rfl) (lj hl_f1 hf_f1 hx1) (rg 2 rfl (rn (aT (si h_1 ▸ rF))))))))))
def fN (fu : Nat) (s1 : List Int) (v1 : Int) : Option Int :=
 (bm (ε := Int) (τ := Unit ⊕ Int) (fun (x1 : Int) => (bif (decide (x1 < (s1.length : Int))) then ((gi s1 x1).bind fun x3 => bif (v1 == x3) then some (Sum.inr (Sum.inr x1)) else some (Sum.inl (W (x1 + 1)))) else some (Sum.inr (Sum.inl ())))) fu 0).bind fun o => kS o fun (_ : Unit) => some (-1)
theorem of {fu : Nat} {s1 : List Int} {v1 : Int} {r : Int} (h : fN fu s1 v1 = some r) : ai Tryz.prog 299 [.sl (s1.map (cI .i64)), .int .i64 v1] (· = .int .i64 r) := by
 rw [fN] at h
 refine cf Tryz.func299 ?_
 refine ag (rv Z Z (rn (aS (ag (rg 2 rfl (rt ((lM (cI .i64) s1)) (rv Z Z (rn (bx h fun e1 hl2 h_1 => aq (fun x => Sum.inl x = e1) (fun (_ : Unit) => ⟨[], [], [], 0⟩) ?_ ?_)))))))))
 ·clear h
  refine aB (be hl2 (fun (x1 : Int) => ⟨[(0, .sl (s1.map (cI .i64))), (1, .int .i64 v1), (7, .int .i64 (s1.length : Int)), (8, .int .i64 x1)], [], [], 0⟩) [] rfl zs ?_)
  intro x1 o5 ho3 hE4
  refine ch (ag (rv Z Z (rn (aS (bw rfl ho3 (fun ho3_1 => ?_) fun ho3_1 => ?_)))))
  ·clear ho3
   refine aK (aS (aB (ag (rg 2 rfl (rn (ag (rg 3 rfl (bx ho3_1 fun x3 hx6 ho3_2 => ri Z Z Z Z Z Z (iF hx6) (kG (cI .i64) hx6) (wM (fun _ => by rfl) _) ?_))))))))
   refine rg 2 rfl (rn (bw rfl ho3_2 (fun ho3_3 => ?_) fun ho3_3 => ?_))
   ·clear ho3_1 ho3_2
    refine ag (rg 2 rfl (rn (aT ?_)))
    cases ho3_3
    have hq := hE4 _ rfl
    subst hq
    have h_2 := n8 h_1
    subst h_2
    exact rF
   clear ho3_1 ho3_2
   exact aK (ah (aR (rg 2 rfl (rn (si ho3_3 ▸ lN [])))))
  clear ho3
  refine aW (xX ?_)
  cases ho3_1
  have hq := hE4 _ rfl
  subst hq
  exact cN []
 clear h
 rintro _ rfl
 have h_2 := ry h_1
 exact ag (rv Z Z (rn (aT (si h_2 ▸ rF))))
def dA (fu : Nat) (s1 : List Int) (v1 : Int) : Option Bool :=
 (fN fu s1 v1).bind fun x1 => some (decide (x1 ≥ 0))
theorem lV {fu : Nat} {s1 : List Int} {v1 : Int} {r : Bool} (h : dA fu s1 v1 = some r) : ai Tryz.prog 278 [.sl (s1.map (cI .i64)), .int .i64 v1] (· = .bool r) := by
 rw [dA] at h
 refine cf Tryz.func278 ?_
 exact ag (rv Z Z (rn (ag (rg 2 rfl (bx h fun x1 hx1 h_1 => bt Z Z Z (of hx1) (rg 2 rfl (rn (aT (si h_1 ▸ rF)))))))))
def eU (fu : Nat) (c1 : Int) : Option Bool :=
 bif (decide (c1 < 32)) then some true else (bif (decide (c1 > 126)) then some true else some (c1 == 34))
theorem qe {fu : Nat} {c1 : Int} {r : Bool} (h : eU fu c1 = some r) : ai Tryz.prog 300 [.int .u8 c1] (· = .bool r) := by
 rw [eU] at h
 refine cf Tryz.func300 ?_
 refine ag (rv Z Z (rn (ag (rg 3 rfl (eN Z Z Z Z Z h (fun h_1 => ?_) fun h_1 => ?_)))))
 ·clear h
  refine rg 4 rfl (eN Z Z Z Z Z h_1 (fun h_2 => ?_) fun h_2 => ?_)
  ·clear h_1
   exact rg 4 rfl (rn (aT (si h_2 ▸ rF)))
  clear h_1
  exact rg 3 rfl (rn (aT (si h_2 ▸ rF)))
 clear h
 exact rg 7 rfl (rn (aT (si h_1 ▸ rF)))
def ir (fu : Nat) (s1 : aY) : Option Bool :=
 bif (decide ((s1.length : Int) ≤ 200)) then ((dj fu s1 (fun x0 => eU fu x0)).bind fun x1 => some (!x1)) else some false
theorem tq {fu : Nat} {s1 : aY} {r : Bool} (h : ir fu s1 = some r) : ai Tryz.prog 279 [.str (sB s1)] (· = .bool r) := by
 rw [ir] at h
 refine cf Tryz.func279 ?_
 refine ag (rv Z Z (rn (ag (rv Z Z (rn (ag (rg 4 rfl (dN Z Z Z Z Z h (fun h_1 => ?_) fun h_1 => ?_))))))))
 ·clear h
  exact rv Z Z (gy Z Z Z (rN rfl (CD false Z Z Z Z Z Z Z) (rg 1 rfl (gy Z Z Z (bx h_1 fun x1 hx1 h_2 => bt Z Z Z (jS ⟨rfl, fun _ => rfl⟩ (fun hq => qe hq) hx1) (rg 3 rfl (rn (aT (si h_2 ▸ rF)))))))))
 clear h
 exact rg 6 rfl (rn (aT (si h_1 ▸ rF)))
def gN (fu : Nat) (a1 : aI) : Option Bool :=
 bif a1.Text then ((bif (a1.Name == []) then (bif (a1.N == 0) then ((ir fu a1.S).bind fun x2 => some x2) else some false) else some false : Option Bool).bind fun (x1 : Bool) => some x1) else (bif (a1.Name == []) then some (a1.S == []) else some false)
theorem rm {fu : Nat} {a1 : aI} {r : Bool} (h : gN fu a1 = some r) : ai Tryz.prog 254 [.agg [.str (sB a1.Name), .bool a1.Text, .int .i64 a1.N, .str (sB a1.S)]] (· = .bool r) := by
 rw [gN] at h
 refine cf Tryz.func254 ?_
 refine ag (rb Z Z (rv Z Z (rn (aS (ag (rg 2 rfl (rn (bw rfl h (fun h_1 => ?_) fun h_1 => ?_))))))))
 ·clear h
  refine aS (bx h_1 fun o1 ho2 h_2 => aq (fun x => x = o1) (fun (x1 : Bool) => ⟨[(2, .bool x1)], [], [], 0⟩) ?_ ?_)
  ·clear h_1
   refine aR (rg 3 rfl (rt (jH a1.Name []) (rv Z Z (dN Z Z Z Z Z ho2 (fun ho2_1 => ?_) fun ho2_1 => ?_))))
   ·clear ho2
    refine rg 5 rfl (dN Z Z Z Z Z ho2_1 (fun ho2_2 => ?_) fun ho2_2 => ?_)
    ·clear ho2_1
     exact rg 2 rfl (gy Z Z Z (bx ho2_2 fun x2 hx3 ho2_3 => bt Z Z Z (tq hx3) (rg 2 rfl (rn (si ho2_3 ▸ cN [])))))
    clear ho2_1
    exact rg 4 rfl (rn (si ho2_2 ▸ cN []))
   clear ho2
   exact rg 9 rfl (rn (si ho2_1 ▸ cN []))
  clear h_1
  rintro x1 rfl
  exact ch (aT (si h_2 ▸ rF))
 clear h
 refine aK (ag (rg 3 rfl (rt (jH a1.Name []) (rv Z Z (dN Z Z Z Z Z h_1 (fun h_2 => ?_) fun h_2 => ?_)))))
 ·clear h_1
  exact rg 3 rfl (rt (jH a1.S []) (rg 2 rfl (rn (aT (si h_2 ▸ rF)))))
 clear h_1
 exact rg 4 rfl (rn (aT (si h_2 ▸ rF)))
def ic (fu : Nat) (s1 : aY) : Option Bool :=
 bif (decide ((s1.length : Int) > 20)) then some false else ((iU fu s1).bind fun l1 => bif l1.2.isNone then (bif ((l1.1.length : Int) == 1) then ((gi l1.1 0).bind fun x1 => bif (x1.Kind == 1) then ((gi l1.1 0).bind fun x2 => some (x2.S == s1)) else some false) else some false) else some false)
theorem tp {fu : Nat} {s1 : aY} {r : Bool} (h : ic fu s1 = some r) : ai Tryz.prog 255 [.str (sB s1)] (· = .bool r) := by
 rw [ic] at h
 refine cf Tryz.func255 ?_
 refine ag (rv Z Z (rn (aS (ag (rg 3 rfl (rn (bw rfl h (fun h_1 => ?_) fun h_1 => ?_)))))))
 ·clear h
  exact ag (rv Z Z (rn (aT (si h_1 ▸ rF))))
 clear h
 refine aK (ag (rv Z Z (bx h_1 fun l1 hx1 h_2 => bt Z Z Z (pH hx1) (rg 5 rfl (rn (ag (rv Z Z (rV rfl (nN Z Z Z) (rv Z Z (dN Z Z Z Z Z h_2 (fun h_3 => ?_) fun h_3 => ?_))))))))))
 ·clear h_1 h_2
  refine rg 2 rfl (rt ((lM aA l1.1)) (rg 3 rfl (dN Z Z Z Z Z h_3 (fun h_4 => ?_) fun h_4 => ?_)))
  ·clear h_3
   refine rv Z Z (gy Z Z Z (bx h_4 fun x1 hx2 h_5 => ri Z Z Z Z Z Z (iF hx2) (kG aA hx2) (wM (fun _ => by rfl) _) ?_))
   refine rg 5 rfl (dN Z Z Z Z Z h_5 (fun h_6 => ?_) fun h_6 => ?_)
   ·clear h_4 h_5
    refine rv Z Z (gy Z Z Z (bx h_6 fun x2 hx3 h_7 => ri Z Z Z Z Z Z (iF hx3) (kG aA hx3) (wM (fun _ => by rfl) _) ?_))
    exact rg 4 rfl (rt (jH x2.S s1) (rg 2 rfl (rn (aT (si h_7 ▸ rF)))))
   clear h_4 h_5
   exact rg 7 rfl (rn (aT (si h_6 ▸ rF)))
  clear h_3
  exact rg 14 rfl (rn (aT (si h_4 ▸ rF)))
 clear h_1 h_2
 exact rg 19 rfl (rn (aT (si h_3 ▸ rF)))
def hY (fu : Nat)  : Option (List aY) :=
 some ([[60], [60, 61], [61], [33, 61], [62, 61], [62]])
theorem oC {fu : Nat}  {r : List aY} (h : hY fu  = some r) : ai Tryz.prog 252 [] (· = .sl (r.map cS)) := by
 rw [hY] at h
 refine cf Tryz.func252 ?_
 exact ag (rv Z Z (rn (ag (mz false Z Z Z Z Z Z Z Z Z Z (rv Z Z (rn (aT (si h ▸ rF))))))))
def eW (fu : Nat) (a1 : aI) (c1 : aa) : Option Bool :=
 match c1 with | .mk kind1 name1 op1 vals1 l1 => (gN fu a1).bind fun x1 => bif (!x1) then some true else ((gi vals1 0).bind fun x2 => (some (!(a1.Text == x2.Text))).bind fun x3 => some x3)
theorem qD {fu : Nat} {a1 : aI} {c1 : aa} {r : Bool} (h : eW fu a1 c1 = some r) : ai Tryz.prog 253 [.agg [.str (sB a1.Name), .bool a1.Text, .int .i64 a1.N, .str (sB a1.S)], .rd (bd c1)] (· = .bool r) := by
 obtain ⟨kind1, name1, op1, vals1, l1⟩ := c1
 rw [eW] at h
 refine cf Tryz.func253 ?_
 refine ag (rb Z Z (rv Z Z (rn (aS (mw 13 Tryz.mix (dv Z Z (fun _ => rfl) (bx h fun x1 hx1 h_1 => dc Z Z Z Z (fun _ => rfl) (fun _ => (rm hx1)) (dv Z Z (fun _ => rfl) (dv Z Z (fun _ => rfl) (Ai Z Z h_1 (fun h_2 => ?_) fun h_2 => ?_))))))))))
 ·clear h h_1
  exact bB Z Z (bB Z Z (bB Z Z (bB Z Z (bB Z Z (bB Z Z (bB Z Z (bB Z Z (dv Z Z (fun _ => rfl) (dn (rv Z Z (rn (aT (si h_2 ▸ rF)))))))))))))
 clear h h_1
 refine dv Z Z (fun _ => rfl) (dv Z Z (fun _ => rfl) (dv Z Z (fun _ => rfl) (dv Z Z (fun _ => rfl) (bx h_2 fun x2 hx2 h_3 => di Z Z Z Z Z (fun _ => rfl) rfl (iF hx2) (kG au hx2) (wM (fun _ => by rfl) _) ?_))))
 refine dv Z Z (fun _ => rfl) (dv Z Z (fun _ => rfl) (dv Z Z (fun _ => rfl) (dv Z Z (fun _ => rfl) (dn (rv Z Z ?_)))))
 obtain ⟨x3, hx3, h_4⟩ := bs h_3
 exact rt (xh hx3) (rn (aT (si h_4 ▸ rF)))
def ik (fu : Nat) (f1 : aa) : Option Bool :=
 match f1 with | .mk kind1 name1 op1 vals1 l1 => ((ic fu name1).bind fun x2 => bif (!x2) then some true else (bif (decide ((l1.length : Int) > 0)) then some true else (bif ((vals1.length : Int) == 0) then some true else ((bV fu vals1 (fun x0 => eW fu x0 (aa.mk kind1 name1 op1 vals1 l1))).bind fun x3 => some x3))) : Option Bool).bind fun (x1 : Bool) => (bif x1 then some false else (bif (kind1 == 4) then ((bif ((vals1.length : Int) == 1) then ((hY fu ).bind fun x5 => (bC fu x5 op1).bind fun x6 => some x6) else some false : Option Bool).bind fun (x4 : Bool) => some x4) else (bif (kind1 == 5) then ((bif ((vals1.length : Int) == 1) then ((gi vals1 0).bind fun x8 => bif x8.Text then some (op1 == []) else some false) else some false : Option Bool).bind fun (x7 : Bool) => some x7) else (bif (decide ((vals1.length : Int) ≤ 20)) then some (op1 == []) else some false))))
theorem td {fu : Nat} {f1 : aa} {r : Bool} (h : ik fu f1 = some r) : ai Tryz.prog 228 [.agg (bd f1)] (· = .bool r) := by
 obtain ⟨kind1, name1, op1, vals1, l1⟩ := f1
 rw [ik] at h
 refine cf Tryz.func228 ?_
 refine ag (rb Z Z (rv Z Z (rn (ag (rg 2 rfl (rn (aS (aS (bx h fun o1 ho2 h_1 => aq (fun x => x = o1) (fun (x1 : Bool) => ⟨[(1, .ptr 0 0), (26, .bool x1)], [(0, 0, .int .i64 kind1), (0, 1, .str (sB name1)), (0, 2, .str (sB op1)), (0, 3, .sl (vals1.map au)), (0, 4, .sl (am l1))], [], 1⟩) ?_ ?_)))))))))
 ·clear h
  refine aR (rg 2 rfl (bx ho2 fun x2 hx3 ho2_1 => bt Z Z Z (tp hx3) (rg 2 rfl (eN Z Z Z Z Z ho2_1 (fun ho2_2 => ?_) fun ho2_2 => ?_))))
  ·clear ho2 ho2_1
   refine rg 3 rfl (rt ((cp l1)) (rg 3 rfl (eN Z Z Z Z Z ho2_2 (fun ho2_3 => ?_) fun ho2_3 => ?_)))
   ·clear ho2_2
    refine rg 3 rfl (rt ((lM au vals1)) (rg 3 rfl (eN Z Z Z Z Z ho2_3 (fun ho2_4 => ?_) fun ho2_4 => ?_)))
    ·clear ho2_3
     exact rg 3 rfl (gy Z Z Z (bx ho2_4 fun x3 hx4 ho2_5 => rf Z Z (fL ⟨rfl, fun _ => rfl⟩ (fun {x0 r} (hq : eW fu x0 (aa.mk kind1 name1 op1 vals1 l1) = some r) => have hz := qD hq; hz) hx4) rfl (rv Z Z (rn (si ho2_5 ▸ cN [0])))))
    clear ho2_3
    exact rg 4 rfl (rn (si ho2_4 ▸ cN [0]))
   clear ho2_2
   exact rg 10 rfl (rn (si ho2_3 ▸ cN [0]))
  clear ho2 ho2_1
  exact rg 16 rfl (rn (si ho2_2 ▸ cN [0]))
 clear h
 rintro x1 rfl
 refine ch (bw rfl h_1 (fun h_2 => ?_) fun h_2 => ?_)
 ·clear h_1
  exact ag (rv Z Z (rn (aT (si h_2 ▸ rF))))
 clear h_1
 refine aK (aS (ag (rg 2 rfl (rn (aB (ag (rg 2 rfl (rn (bw rfl h_2 (fun h_3 => ?_) fun h_3 => ?_)))))))))
 ·clear h_2
  refine aS (bx h_3 fun o5 ho6 h_4 => aq (fun x => x = o5) (fun (x4 : Bool) => ⟨[(2, .bool x4)], [], [], 0⟩) ?_ ?_)
  ·clear h_3
   refine mw 10 Tryz.mix (dv Z Z (fun _ => rfl) (dv Z Z (fun _ => rfl) (dv Z Z (fun _ => rfl) (dt ((lM au vals1)) (dv Z Z (fun _ => rfl) (dv Z Z (fun _ => rfl) (Ai Z Z ho6 (fun ho6_1 => ?_) fun ho6_1 => ?_)))))))
   ·clear ho6
    exact bx ho6_1 fun x5 hx7 ho6_2 => dc Z Z Z Z (fun _ => rfl) (fun _ => (oC hx7)) (dv Z Z (fun _ => rfl) (dv Z Z (fun _ => rfl) (bx ho6_2 fun x6 hx8 ho6_3 => dc Z Z Z Z (fun _ => rfl) (fun _ => (eg hx8)) (dv Z Z (fun _ => rfl) (dn (rv Z Z (rn (si ho6_3 ▸ cN []))))))))
   clear ho6
   exact bB Z Z (bB Z Z (bB Z Z (bB Z Z (dv Z Z (fun _ => rfl) (dn (rv Z Z (rn (si ho6_1 ▸ cN []))))))))
  clear h_3
  rintro x4 rfl
  exact ch (aT (si h_4 ▸ rF))
 clear h_2
 refine ag (rg 2 rfl (rn (bw rfl h_3 (fun h_4 => ?_) fun h_4 => ?_)))
 ·clear h_3
  refine aS (bx h_4 fun o9 ho10 h_5 => aq (fun x => x = o9) (fun (x7 : Bool) => ⟨[(2, .bool x7)], [], [], 0⟩) ?_ ?_)
  ·clear h_4
   refine aR (rg 3 rfl (rt ((lM au vals1)) (rg 2 rfl (dN Z Z Z Z Z ho10 (fun ho10_1 => ?_) fun ho10_1 => ?_))))
   ·clear ho10
    refine rg 2 rfl (gy Z Z Z (bx ho10_1 fun x8 hx11 ho10_2 => ri Z Z Z Z Z Z (iF hx11) (kG au hx11) (wM (fun _ => by rfl) _) ?_))
    refine rg 4 rfl (dN Z Z Z Z Z ho10_2 (fun ho10_3 => ?_) fun ho10_3 => ?_)
    ·clear ho10_1 ho10_2
     exact rg 3 rfl (rt (jH op1 []) (rg 2 rfl (rn (si ho10_3 ▸ cN []))))
    clear ho10_1 ho10_2
    exact rg 4 rfl (rn (si ho10_3 ▸ cN []))
   clear ho10
   exact rg 11 rfl (rn (si ho10_1 ▸ cN []))
  clear h_4
  rintro x7 rfl
  exact ch (aT (si h_5 ▸ rF))
 clear h_3
 refine aK (ah (ag (rg 3 rfl (rt ((lM au vals1)) (rg 2 rfl (dN Z Z Z Z Z h_4 (fun h_5 => ?_) fun h_5 => ?_))))))
 ·clear h_4
  exact rg 3 rfl (rt (jH op1 []) (rg 2 rfl (rn (aT (si h_5 ▸ rF)))))
 clear h_4
 exact rg 4 rfl (rn (aT (si h_5 ▸ rF)))
def gF (fu : Nat) (x1 : aa) (c1 : aa) : Option Bool :=
 match x1 with | .mk kind1 name1 op1 vals1 l1 => match c1 with | .mk kind2 name2 op2 vals2 l2 => some (kind1 == kind2)
theorem rC {fu : Nat} {x1 : aa} {c1 : aa} {r : Bool} (h : gF fu x1 c1 = some r) : ai Tryz.prog 227 [.agg (bd x1), .rd (bd c1)] (· = .bool r) := by
 obtain ⟨kind1, name1, op1, vals1, l1⟩ := x1
 obtain ⟨kind2, name2, op2, vals2, l2⟩ := c1
 rw [gF] at h
 refine cf Tryz.func227 ?_
 exact ag (rb Z Z (rv Z Z (rn (ag (rg 6 rfl (rn (aT (si h ▸ rF))))))))
def jf (fu : Nat) (f1 : aa) : Option Bool :=
 match f1 with | .mk kind1 name1 op1 vals1 l1 => (bif (name1 == []) then (bif (op1 == []) then ((some ((vals1.length : Int) == 0)).bind fun bare2 => some bare2) else some false) else some false : Option Bool).bind fun (bare1 : Bool) => ((bif (kind1 == 1) then some (kind1 == 1) else some (kind1 == 2) : Option Bool).bind fun (x1 : Bool) => (bif x1 then (bif bare1 then (bif (decide ((l1.length : Int) ≥ 2)) then ((bv fu l1 (fun x0 => gF fu x0 (aa.mk kind1 name1 op1 vals1 l1))).bind fun x2 => some (!x2)) else some false) else some false) else (bif (kind1 == 3) then (bif bare1 then ((some ((l1.length : Int) == 1)).bind fun x3 => some x3) else some false) else (bif (kind1 == 7) then (bif bare1 then ((some ((l1.length : Int) == 0)).bind fun x4 => some x4) else some false) else ((bif (kind1 == 4) then some (kind1 == 4) else (bif (kind1 == 5) then some (kind1 == 5) else some (kind1 == 6)) : Option Bool).bind fun (x5 : Bool) => (bif x5 then ((ik fu (aa.mk kind1 name1 op1 vals1 l1)).bind fun x6 => some x6) else some false))))))
theorem ux {fu : Nat} {f1 : aa} {r : Bool} (h : jf fu f1 = some r) : ai Tryz.prog 182 [.agg (bd f1)] (· = .bool r) := by
 obtain ⟨kind1, name1, op1, vals1, l1⟩ := f1
 rw [jf] at h
 refine cf Tryz.func182 ?_
 refine ag (rb Z Z (rv Z Z (rn (ag (rg 2 rfl (rn (aS (bx h fun o1 ho2 h_1 => aq (fun x => x = o1) (fun (bare1 : Bool) => ⟨[(1, .ptr 0 0), (3, .fn 227 [.ptr 0 0]), (4, .bool bare1)], [(0, 0, .int .i64 kind1), (0, 1, .str (sB name1)), (0, 2, .str (sB op1)), (0, 3, .sl (vals1.map au)), (0, 4, .sl (am l1))], [], 1⟩) ?_ ?_))))))))
 ·clear h
  refine aR (rg 3 rfl (rt (jH name1 []) (rv Z Z (dN Z Z Z Z Z ho2 (fun ho2_1 => ?_) fun ho2_1 => ?_))))
  ·clear ho2
   refine rg 3 rfl (rt (jH op1 []) (rg 2 rfl (dN Z Z Z Z Z ho2_1 (fun ho2_2 => ?_) fun ho2_2 => ?_)))
   ·clear ho2_1
    refine rg 3 rfl (rt ((lM au vals1)) (rg 3 rfl ?_))
    obtain ⟨bare2, hx3, ho2_3⟩ := bs ho2_2
    exact rt (xh hx3) (rn (si ho2_3 ▸ cN [0]))
   clear ho2_1
   exact rg 5 rfl (rn (si ho2_2 ▸ cN [0]))
  clear ho2
  exact rg 10 rfl (rn (si ho2_1 ▸ cN [0]))
 clear h
 rintro bare1 rfl
 refine ch (aS (ag (rg 2 rfl (rn (aB (aS (ag (rg 2 rfl (rn (bx h_1 fun o4 ho5 h_2 => aq (fun x => x = o4) (fun (x1 : Bool) => ⟨[(1, .ptr 0 0), (3, .fn 227 [.ptr 0 0]), (4, .bool bare1), (21, .int .i64 kind1), (22, .bool x1)], [(0, 0, .int .i64 kind1), (0, 1, .str (sB name1)), (0, 2, .str (sB op1)), (0, 3, .sl (vals1.map au)), (0, 4, .sl (am l1))], [], 1⟩) ?_ ?_))))))))))
 ·clear h_1
  refine bw rfl ho5 (fun ho5_1 => ?_) fun ho5_1 => ?_
  ·clear ho5
   exact aK (si ho5_1 ▸ cN [0])
  clear ho5
  exact aR (rg 2 rfl (rn (si ho5_1 ▸ cN [0])))
 clear h_1
 rintro x1 rfl
 refine ch (bw rfl h_2 (fun h_3 => ?_) fun h_3 => ?_)
 ·clear h_2
  refine ag (rg 2 rfl (dN Z Z Z Z Z h_3 (fun h_4 => ?_) fun h_4 => ?_))
  ·clear h_3
   refine rg 3 rfl (rt ((cp l1)) (rg 3 rfl (dN Z Z Z Z Z h_4 (fun h_5 => ?_) fun h_5 => ?_)))
   ·clear h_4
    exact rg 3 rfl (gy Z Z Z (bx h_5 fun x2 hx6 h_6 => rf Z Z (cC ⟨rfl, fun _ => rfl⟩ (fun {x0 r} (hq : gF fu x0 (aa.mk kind1 name1 op1 vals1 l1) = some r) => have hz := rC hq; hz) hx6) rfl (rg 3 rfl (rn (aT (si h_6 ▸ rF))))))
   clear h_4
   exact rg 6 rfl (rn (aT (si h_5 ▸ rF)))
  clear h_3
  exact rg 12 rfl (rn (aT (si h_4 ▸ rF)))
 clear h_2
 refine ag (rg 2 rfl (rn (bw rfl h_3 (fun h_4 => ?_) fun h_4 => ?_)))
 ·clear h_3
  refine ag (rg 2 rfl (dN Z Z Z Z Z h_4 (fun h_5 => ?_) fun h_5 => ?_))
  ·clear h_4
   refine rg 3 rfl (rt ((cp l1)) (rg 3 rfl ?_))
   obtain ⟨x3, hx7, h_6⟩ := bs h_5
   exact rt (xh hx7) (rn (aT (si h_6 ▸ rF)))
  clear h_4
  exact rg 5 rfl (rn (aT (si h_5 ▸ rF)))
 clear h_3
 refine ag (rg 2 rfl (rn (bw rfl h_4 (fun h_5 => ?_) fun h_5 => ?_)))
 ·clear h_4
  refine ag (rg 2 rfl (dN Z Z Z Z Z h_5 (fun h_6 => ?_) fun h_6 => ?_))
  ·clear h_5
   refine rg 3 rfl (rt ((cp l1)) (rg 3 rfl ?_))
   obtain ⟨x4, hx8, h_7⟩ := bs h_6
   exact rt (xh hx8) (rn (aT (si h_7 ▸ rF)))
  clear h_5
  exact rg 5 rfl (rn (aT (si h_6 ▸ rF)))
 clear h_4
 refine aS (ag (rg 2 rfl (rn (bx h_5 fun o9 ho10 h_6 => aq (fun x => x = o9) (fun (x5 : Bool) => ⟨[(1, .ptr 0 0), (57, .bool x5)], [(0, 0, .int .i64 kind1), (0, 1, .str (sB name1)), (0, 2, .str (sB op1)), (0, 3, .sl (vals1.map au)), (0, 4, .sl (am l1))], [], 1⟩) ?_ ?_))))
 ·clear h_5
  refine bw rfl ho10 (fun ho10_1 => ?_) fun ho10_1 => ?_
  ·clear ho10
   exact aK (si ho10_1 ▸ cN [0])
  clear ho10
  refine ag (rg 2 rfl (rn (bw rfl ho10_1 (fun ho10_2 => ?_) fun ho10_2 => ?_)))
  ·clear ho10_1
   exact aK (si ho10_2 ▸ cN [0])
  clear ho10_1
  exact aR (rg 2 rfl (rn (si ho10_2 ▸ cN [0])))
 clear h_5
 rintro x5 rfl
 refine ch (bw rfl h_6 (fun h_7 => ?_) fun h_7 => ?_)
 ·clear h_6
  exact ag (rv Z Z (bx h_7 fun x6 hx11 h_8 => bt Z Z Z (td hx11) (rv Z Z (rn (aT (si h_8 ▸ rF))))))
 clear h_6
 exact aK (ah (ag (rv Z Z (rn (aT (si h_7 ▸ rF))))))
mutual
def eo : Nat → aa → Option (Int × Int)
 | 0, _ => none
 | fu + 1, f1 => match f1 with | .mk kind1 name1 op1 vals1 l1 => (bm (ε := Int × Int × Int) (τ := Int × Int) (fun (((deep1, nodes1, x1)) : Int × Int × Int) => (bif (decide (x1 < (l1.length : Int))) then ((gi l1 x1).bind fun x3 => match x3 with | .mk kind2 name2 op2 vals2 l2 => (eo fu (aa.mk kind2 name2 op2 vals2 l2)).bind fun d1 => (some (if d1.1 > deep1 then d1.1 else deep1)).bind fun deep4 => (some (W (nodes1 + d1.2))).bind fun nodes4 => some (Sum.inl (deep4, nodes4, W (x1 + 1)))) else some (Sum.inr (deep1, nodes1)))) fu (0, 1, 0)).bind fun (((deep3, nodes3)) : Int × Int) => some (W (deep3 + 1), nodes3)
end
abbrev ku (fu : Nat) : Prop := ∀ {f1} {r : Int × Int}, eo fu f1 = some r → ai Tryz.prog 126 [.agg (bd f1)] (· = .tup [.int .i64 r.1, .int .i64 r.2])
theorem sC {fu : Nat} (ih_dfilter_size : ku fu) : ku (fu + 1) := by
 intro f1 r h
 obtain ⟨kind1, name1, op1, vals1, l1⟩ := f1
 rw [eo] at h
 refine cf Tryz.func126 ?_
 refine ag (rb Z Z (rg 2 rfl (rn (ag (rg 2 rfl (rn (aS (ag (rg 3 rfl (rt ((cp l1)) (rv Z Z (rn (bx h fun e1 hl2 h_1 => aq (fun x => x = e1) (fun (((deep3, nodes3)) : Int × Int) => ⟨[(4, .int .i64 deep3), (5, .int .i64 nodes3)], [], [], 0⟩) ?_ ?_)))))))))))))
 ·clear h
  refine aB (be hl2 (fun (((deep1, nodes1, x1)) : Int × Int × Int) => ⟨[(4, .int .i64 deep1), (5, .int .i64 nodes1), (11, .sl (am l1)), (12, .int .i64 (l1.length : Int)), (13, .int .i64 x1)], [], [], 0⟩) [] rfl zs ?_)
  intro v o5 ho3 hE4
  obtain ⟨deep1, nodes1, x1⟩ := v
  refine ch (ag (rv Z Z (rn (aS (bw rfl ho3 (fun ho3_1 => ?_) fun ho3_1 => ?_)))))
  ·clear ho3
   refine aK (aS (aB (ag (bx ho3_1 fun x3 hx6 ho3_2 => ri Z Z Z Z Z Z (iF hx6) (dB hx6) (bK _) ?_))))
   obtain ⟨kind2, name2, op2, vals2, l2⟩ := x3
   refine rv Z Z (ra Z Z Z (rs Z Z Z Z Z Z Z (rn (ag (rv Z Z (bx ho3_2 fun d1 hx7 ho3_3 => bt Z Z Z (ih_dfilter_size hx7) (rg 5 rfl (rn (aR (rg 7 rfl ?_))))))))))
   obtain ⟨deep4, hx8, ho3_4⟩ := bs ho3_3
   refine rt (Ew hx8) (rv Z Z ?_)
   obtain ⟨nodes4, hx9, ho3_5⟩ := bs ho3_4
   exact rt (Ew hx9) (rn (ah (aR (rg 2 rfl (rn (si ho3_5 ▸ lN []))))))
  clear ho3
  refine aW (xX ?_)
  cases ho3_1
  have hq := hE4 _ rfl
  subst hq
  exact cN []
 clear h
 rintro ⟨deep3, nodes3⟩ rfl
 exact ch (ag (rg 5 rfl (rn (aT (si h_1 ▸ rF)))))
end
theorem mQ : ∀ {fu : Nat}, ku fu
 | 0 => fun h => by simp [eo] at h
 | fu + 1 => sC (fu := fu) (mQ (fu := fu))
mutual
def ey : Nat → aa → Option Bool
 | 0, _ => none
 | fu + 1, f1 => match f1 with | .mk kind1 name1 op1 vals1 l1 => (jf fu (aa.mk kind1 name1 op1 vals1 l1)).bind fun x1 => bif x1 then ((bv fu l1 (fun x0 => eX fu x0)).bind fun x2 => some (!x2)) else some false
def eX : Nat → aa → Option Bool
 | 0, _ => none
 | fu + 1, x1 => match x1 with | .mk kind1 name1 op1 vals1 l1 => (ey fu (aa.mk kind1 name1 op1 vals1 l1)).bind fun x2 => some (!x2)
end
abbrev f9 (fu : Nat) : Prop := ∀ {f1} {r : Bool}, ey fu f1 = some r → ai Tryz.prog 127 [.agg (bd f1)] (· = .bool r)
abbrev gv (fu : Nat) : Prop := ∀ {x1} {r : Bool}, eX fu x1 = some r → ai Tryz.prog 183 [.agg (bd x1)] (· = .bool r)
section
attribute [local irreducible] cg aM DP ai aP Decidable.decide
theorem tC {fu : Nat} (ih_dfilter_fine : f9 fu) (ih_dfilter_fine_1 : gv fu) : f9 (fu + 1) := by
 intro f1 r h
 obtain ⟨kind1, name1, op1, vals1, l1⟩ := f1
 rw [ey] at h
 refine cf Tryz.func127 ?_
 refine ag (rb Z Z (rv Z Z (rn (ag (rv Z Z (bx h fun x1 hx1 h_1 => bt Z Z Z (ux hx1) (rv Z Z (dN Z Z Z Z Z h_1 (fun h_2 => ?_) fun h_2 => ?_))))))))
 ·clear h h_1
  exact rg 2 rfl (gy Z Z Z (bx h_2 fun x2 hx2 h_3 => bt Z Z Z (cC ⟨rfl, fun _ => rfl⟩ (fun hq => ih_dfilter_fine_1 hq) hx2) (rg 3 rfl (rn (aT (si h_3 ▸ rF))))))
 clear h h_1
 exact rg 5 rfl (rn (aT (si h_2 ▸ rF)))
theorem qx {fu : Nat} (ih_dfilter_fine : f9 fu) (ih_dfilter_fine_1 : gv fu) : gv (fu + 1) := by
 intro x1 r h
 obtain ⟨kind1, name1, op1, vals1, l1⟩ := x1
 rw [eX] at h
 refine cf Tryz.func183 ?_
 exact ag (rb Z Z (rv Z Z (rn (ag (rv Z Z (bx h fun x2 hx1 h_1 => bt Z Z Z (ih_dfilter_fine hx1) (rg 2 rfl (rn (aT (si h_1 ▸ rF))))))))))
end
theorem lR : ∀ fu : Nat, f9 fu ∧ gv fu
 | 0 => ⟨fun h => by simp [ey] at h, fun h => by simp [eX] at h⟩
 | fu + 1 => by
  obtain ⟨i0, i1⟩ := lR fu
  exact ⟨tC i0 i1, qx i0 i1⟩
theorem tV {fu : Nat} : f9 fu := (lR fu).1
def jw (fu : Nat) (f1 : aa) : Option Bool :=
 match f1 with | .mk kind1 name1 op1 vals1 l1 => (eo fu (aa.mk kind1 name1 op1 vals1 l1)).bind fun deep1 => bif (decide (deep1.1 ≤ 10)) then (bif (decide (deep1.2 ≤ 60)) then ((ey fu (aa.mk kind1 name1 op1 vals1 l1)).bind fun x1 => some x1) else some false) else some false
section
attribute [local irreducible] cg aM DP ai aP Decidable.decide
theorem uL {fu : Nat} {f1 : aa} {r : Bool} (h : jw fu f1 = some r) : ai Tryz.prog 79 [.agg (bd f1)] (· = .bool r) := by
 obtain ⟨kind1, name1, op1, vals1, l1⟩ := f1
 rw [jw] at h
 refine cf Tryz.func79 ?_
 refine ag (rb Z Z (rv Z Z (rn (ag (rv Z Z (bx h fun deep1 hx1 h_1 => bt Z Z Z (mQ hx1) (rg 5 rfl (rn (ag (rg 3 rfl (dN Z Z Z Z Z h_1 (fun h_2 => ?_) fun h_2 => ?_)))))))))))
 ·clear h h_1
  refine rg 4 rfl (dN Z Z Z Z Z h_2 (fun h_3 => ?_) fun h_3 => ?_)
  ·clear h_2
   exact rv Z Z (gy Z Z Z (bx h_3 fun x1 hx2 h_4 => bt Z Z Z (tV hx2) (rg 2 rfl (rn (aT (si h_4 ▸ rF))))))
  clear h_2
  exact rg 3 rfl (rn (aT (si h_3 ▸ rF)))
 clear h h_1
 exact rg 7 rfl (rn (aT (si h_2 ▸ rF)))
def cb (fu : Nat) (p1 : aj) : Option (ax × aj) :=
 (bif p1.Bad then some true else some ((p1.L.length : Int) == 0) : Option Bool).bind fun (x1 : Bool) => (bif x1 then some ((ax.mk 0 0 0 []), p1) else ((gi p1.L 0).bind fun x2 => some (x2, p1)))
theorem iG {fu : Nat} {p1 : aj} {r : ax × aj} (h : cb fu p1 = some r) : aP Tryz.prog 224 1 [.ptr 0 0] [(0, 0, .sl (p1.L.map aA)), (0, 1, .bool p1.Bad)] [] (fun r_ H_ O_ n_ => r_ = .agg [.int .i64 r.1.Kind, .int .i64 r.1.At, .int .i64 r.1.N, .str (sB r.1.S)] ∧ H_ = [(0, 0, .sl (r.2.L.map aA)), (0, 1, .bool r.2.Bad)] ∧ O_ = [] ∧ n_ = 1) := by
 rw [cb] at h
 refine nO Tryz.func224 ?_
 refine ag (ra Z Z Z (rn (aS (aS (bx h fun o1 ho2 h_1 => aq (fun x => x = o1) (fun (x1 : Bool) => ⟨[(0, .ptr 0 0), (2, .ptr 1 0), (14, .bool x1)], [(0, 0, .sl (p1.L.map aA)), (0, 1, .bool p1.Bad), (1, 0, .int .i64 0), (1, 1, .int .i64 0), (1, 2, .int .i64 0), (1, 3, .str (sB []))], [], 2⟩) ?_ ?_)))))
 ·clear h
  refine aR (rg 5 rfl (eN Z Z Z Z Z ho2 (fun ho2_1 => ?_) fun ho2_1 => ?_))
  ·clear ho2
   exact rg 5 rfl (rt ((lM aA p1.L)) (rg 2 rfl (rn (si ho2_1 ▸ cN [0,1]))))
  clear ho2
  exact rg 6 rfl (rn (si ho2_1 ▸ cN [0,1]))
 clear h
 rintro x1 rfl
 refine ch (bw rfl h_1 (fun h_2 => ?_) fun h_2 => ?_)
 ·clear h_1
  refine ag (rv Z Z (rs Z Z Z Z Z Z Z (rn (aT ?_))))
  obtain rfl := si h_2
  refine rW ?_
  exact rA [0]
 clear h_1
 refine aK (ag (rg 4 rfl (bx h_2 fun x2 hx3 h_3 => ri Z Z Z Z Z Z (iF hx3) (kG aA hx3) (wM (fun _ => by rfl) _) ?_)))
 refine rv Z Z (rs Z Z Z Z Z Z Z (rn (aT ?_)))
 obtain rfl := si h_3
 refine rW ?_
 exact rA [0]
def aN (fu : Nat) (p1 : aj) (s1 : aY) : Option (Bool × aj) :=
 (cb fu p1).bind fun x1 => (bif (!(x1.1.S == s1)) then some true else (bif (x1.1.Kind != 2) then some (x1.1.Kind != 5) else some false) : Option Bool).bind fun (x2 : Bool) => (bif x2 then some (false, x1.2) else ((kC x1.2.L 1 (x1.2.L.length : Int)).bind fun l1 => some (true, (aj.mk l1 x1.2.Bad))))
theorem bo {fu : Nat} {p1 : aj} {s1 : aY} {r : Bool × aj} (h : aN fu p1 s1 = some r) : aP Tryz.prog 180 1 [.ptr 0 0, .str (sB s1)] [(0, 0, .sl (p1.L.map aA)), (0, 1, .bool p1.Bad)] [] (fun r_ H_ O_ n_ => r_ = .bool r.1 ∧ H_ = [(0, 0, .sl (r.2.L.map aA)), (0, 1, .bool r.2.Bad)] ∧ O_ = [] ∧ n_ = 1) := by
 rw [aN] at h
 refine nO Tryz.func180 ?_
 refine ag (rv Z Z (rn (ag (rv Z Z (bx h fun x1 hx1 h_1 => rh [0] Z Z (iG hx1) Z Z Z zH zO (eA Z Z Z Z ?_))))))
 refine ra Z Z Z (rs Z Z Z Z Z Z Z (rn (aS (aS (bx h_1 fun o2 ho3 h_2 => aq (fun x => x = o2) (fun (x2 : Bool) => ⟨[(0, .ptr 0 0), (21, .bool x2)], [(0, 0, .sl (x1.2.L.map aA)), (0, 1, .bool x1.2.Bad)], [], 1⟩) ?_ ?_)))))
 ·clear h h_1
  refine aR (rg 4 rfl (rt (G7 x1.1.S s1) (rv Z Z (eN Z Z Z Z Z ho3 (fun ho3_1 => ?_) fun ho3_1 => ?_))))
  ·clear ho3
   refine rg 4 rfl (dN Z Z Z Z Z ho3_1 (fun ho3_2 => ?_) fun ho3_2 => ?_)
   ·clear ho3_1
    exact rg 5 rfl (rn (si ho3_2 ▸ cN [0]))
   clear ho3_1
   exact rg 4 rfl (rn (si ho3_2 ▸ cN [0]))
  clear ho3
  exact rg 3 rfl (gu Z Z Z Z (gu Z Z Z Z (gu Z Z Z Z (rg 2 rfl (rn (si ho3_1 ▸ cN [0]))))))
 clear h h_1
 rintro x2 rfl
 refine ch (bw rfl h_2 (fun h_3 => ?_) fun h_3 => ?_)
 ·clear h_2
  refine ag (rv Z Z (rn (aT ?_)))
  obtain rfl := si h_3
  refine rW ?_
  exact rA [0]
 clear h_2
 refine aK (ag (rg 5 rfl (bx h_3 fun l1 hx4 h_4 => rV rfl (nc (c := aA) Z Z Z Z ⟨_, rfl⟩ rfl hx4 (fun _ => rfl)) (rg 2 rfl (rs Z Z Z Z Z Z Z (rn (ag (rv Z Z (rn (aT ?_))))))))))
 obtain rfl := si h_4
 refine rW ?_
 exact rA [0]
def bp (fu : Nat) (p1 : aj) (is1 : Bool) : Option aj :=
 bif p1.Bad then some (aj.mk p1.L true) else some (aj.mk p1.L (!is1))
theorem dl {fu : Nat} {p1 : aj} {is1 : Bool} {r : aj} (h : bp fu p1 is1 = some r) : aP Tryz.prog 225 1 [.ptr 0 0, .bool is1] [(0, 0, .sl (p1.L.map aA)), (0, 1, .bool p1.Bad)] [] (fun r_ H_ O_ n_ => r_ = .tup [] ∧ H_ = [(0, 0, .sl (r.L.map aA)), (0, 1, .bool r.Bad)] ∧ O_ = [] ∧ n_ = 1) := by
 rw [bp] at h
 refine nO Tryz.func225 ?_
 refine aR (rg 6 rfl (eN Z Z Z Z Z h (fun h_1 => ?_) fun h_1 => ?_))
 ·clear h
  refine rg 5 rfl (rs Z Z Z Z Z Z Z (rn ?_))
  obtain rfl := si h_1
  exact Il [0]
 clear h
 refine rg 4 rfl (rs Z Z Z Z Z Z Z (rn ?_))
 obtain rfl := si h_1
 exact Il [0]
def bD (fu : Nat) (p1 : aj) (kinds1 : List Int) : Option (ax × aj) :=
 (cb fu p1).bind fun x1 => (dA fu kinds1 x1.1.Kind).bind fun x2 => bif (!x2) then some ((ax.mk 0 0 0 []), (aj.mk x1.2.L true)) else ((kC x1.2.L 1 (x1.2.L.length : Int)).bind fun l1 => some (x1.1, (aj.mk l1 x1.2.Bad)))
theorem fG {fu : Nat} {p1 : aj} {kinds1 : List Int} {r : ax × aj} (h : bD fu p1 kinds1 = some r) : aP Tryz.prog 250 1 [.ptr 0 0, .sl (kinds1.map (cI .i64))] [(0, 0, .sl (p1.L.map aA)), (0, 1, .bool p1.Bad)] [] (fun r_ H_ O_ n_ => r_ = .agg [.int .i64 r.1.Kind, .int .i64 r.1.At, .int .i64 r.1.N, .str (sB r.1.S)] ∧ H_ = [(0, 0, .sl (r.2.L.map aA)), (0, 1, .bool r.2.Bad)] ∧ O_ = [] ∧ n_ = 1) := by
 rw [bD] at h
 refine nO Tryz.func250 ?_
 refine ag (ra Z Z Z (rn (ag (rv Z Z (bx h fun x1 hx1 h_1 => rh [0] Z Z (iG hx1) Z Z Z zH zO (eA Z Z Z Z ?_))))))
 refine ra Z Z Z (rs Z Z Z Z Z Z Z (rn (aS (ag (rg 3 rfl (bx h_1 fun x2 hx2 h_2 => bt Z Z Z (lV hx2) (rv Z Z (rn (bw rfl h_2 (fun h_3 => ?_) fun h_3 => ?_)))))))))
 ·clear h h_1 h_2
  refine ag (rg 3 rfl (rs Z Z Z Z Z Z Z (rn (ag (rv Z Z (rs Z Z Z Z Z Z Z (rn (aT ?_))))))))
  obtain rfl := si h_3
  refine rW ?_
  exact rA [0]
 clear h h_1 h_2
 refine aK (ag (rg 5 rfl (bx h_3 fun l1 hx3 h_4 => rV rfl (nc (c := aA) Z Z Z Z ⟨_, rfl⟩ rfl hx3 (fun _ => rfl)) (rg 2 rfl (rs Z Z Z Z Z Z Z (rn (ag (rv Z Z (rs Z Z Z Z Z Z Z (rn (aT ?_)))))))))))
 obtain rfl := si h_4
 refine rW ?_
 exact rA [0]
def br (fu : Nat) (p1 : aj) (kinds1 : List Int) : Option (aI × aj) :=
 (bD fu p1 kinds1).bind fun x1 => bif (x1.1.Kind == 4) then some ((aI.mk [] true 0 x1.1.S), x1.2) else some ((aI.mk [] false x1.1.N []), x1.2)
theorem ff {fu : Nat} {p1 : aj} {kinds1 : List Int} {r : aI × aj} (h : br fu p1 kinds1 = some r) : aP Tryz.prog 251 1 [.ptr 0 0, .sl (kinds1.map (cI .i64))] [(0, 0, .sl (p1.L.map aA)), (0, 1, .bool p1.Bad)] [] (fun r_ H_ O_ n_ => r_ = .agg [.str (sB r.1.Name), .bool r.1.Text, .int .i64 r.1.N, .str (sB r.1.S)] ∧ H_ = [(0, 0, .sl (r.2.L.map aA)), (0, 1, .bool r.2.Bad)] ∧ O_ = [] ∧ n_ = 1) := by
 rw [br] at h
 refine nO Tryz.func251 ?_
 refine ag (ra Z Z Z (rn (ag (rg 2 rfl (bx h fun x1 hx1 h_1 => rh [0] Z Z (fG hx1) Z Z Z zH zO (eA Z Z Z Z ?_))))))
 refine ra Z Z Z (rs Z Z Z Z Z Z Z (rn (aS (ag (rg 3 rfl (rn (bw rfl h_1 (fun h_2 => ?_) fun h_2 => ?_)))))))
 ·clear h h_1
  refine ag (rg 3 rfl (rs Z Z Z Z Z Z Z (rn (aT ?_))))
  obtain rfl := si h_2
  refine rW ?_
  exact rA [0]
 clear h h_1
 refine aK (ag (rg 3 rfl (rs Z Z Z Z Z Z Z (rn (aT ?_)))))
 obtain rfl := si h_2
 refine rW ?_
 exact rA [0]
def dP (fu : Nat) (p1 : aj) : Option (aa × aj) :=
 (bD fu p1 [1]).bind fun x1 => (aN fu x1.2 [105, 110]).bind fun x2 => bif x2.1 then ((aN fu x2.2 [40]).bind fun x3 => (bp fu x3.2 x3.1).bind fun x4 => (bm (ε := Bool × (List ax) × Bool × (List aI)) (τ := (List ax) × Bool × (List aI)) (fun (((more1, p2, p3, l1)) : Bool × (List ax) × Bool × (List aI)) => (bif more1 then ((br fu (aj.mk p2 p3) [3, 4]).bind fun x5 => (ap l1 [x5.1]).bind fun l4 => (gi l4 0).bind fun x7 => (bp fu x5.2 (x5.1.Text == x7.Text)).bind fun x8 => (aN fu x8 [44]).bind fun more3 => some (Sum.inl (more3.1, more3.2.L, more3.2.Bad, l4))) else some (Sum.inr (p2, p3, l1)))) fu (true, x4.L, x4.Bad, [])).bind fun (((p6, p7, l3)) : (List ax) × Bool × (List aI)) => ((aN fu (aj.mk p6 p7) [41]).bind fun x9 => (bp fu x9.2 x9.1).bind fun x10 => some ((aa.mk 6 x1.1.S [] l3 []), x10))) else ((aN fu x2.2 [94, 61]).bind fun x11 => bif x11.1 then ((br fu x11.2 [4]).bind fun x12 => some ((aa.mk 5 x1.1.S [] [x12.1] []), x12.2)) else ((bD fu x11.2 [5]).bind fun x13 => (hY fu ).bind fun x16 => (bC fu x16 x13.1.S).bind fun x17 => (bp fu x13.2 x17).bind fun x18 => (br fu x18 [3, 4]).bind fun x19 => some ((aa.mk 4 x1.1.S x13.1.S [x19.1] []), x19.2)))
theorem mN {fu : Nat} {p1 : aj} {r : aa × aj} (h : dP fu p1 = some r) : aP Tryz.prog 226 1 [.ptr 0 0] [(0, 0, .sl (p1.L.map aA)), (0, 1, .bool p1.Bad)] [] (fun r_ H_ O_ n_ => r_ = .agg (bd r.1) ∧ H_ = [(0, 0, .sl (r.2.L.map aA)), (0, 1, .bool r.2.Bad)] ∧ O_ = [] ∧ n_ = 1) := by
 rw [dP] at h
 refine nO Tryz.func226 ?_
 refine ag (ra Z Z Z (rn (ag (rv Z Z (mz false Z Z Z Z Z Z Z Z Z Z (bx h fun x1 hx1 h_1 => rh [0] Z Z (fG hx1) Z Z Z zH zO (eA Z Z Z Z ?_)))))))
 refine rg 2 rfl (ra Z Z Z (rs Z Z Z Z Z Z Z (rn (aS (aB (ag (rv Z Z (bx h_1 fun x2 hx2 h_2 => rh [0] Z Z (bo hx2) Z Z Z zH zO (eA Z Z Z Z ?_)))))))))
 refine rv Z Z (rn (bw rfl h_2 (fun h_3 => ?_) fun h_3 => ?_))
 ·clear h h_1 h_2
  refine ag (rv Z Z (rs Z Z Z Z Z Z Z (rn (ag (rg 2 rfl (bx h_3 fun x3 hx3 h_4 => rh [0] Z Z (bo hx3) Z Z Z zH zO (eA Z Z Z Z ?_)))))))
  refine bx h_4 fun x4 hx4 h_5 => rh [0] Z Z (dl hx4) Z Z Z zH zO (eA Z Z Z Z ?_)
  refine rn (aS (ag (rv Z Z (rn (aQ (fun _ _ _ _ _ hi => iX false 4 3 3 rfl hi) (bx h_5 fun e5 hl6 h_6 => aq (fun x => x = e5) (fun (((p6, p7, l3)) : (List ax) × Bool × (List aI)) => ⟨[(0, .ptr 0 0), (2, .ptr 1 0), (3, .ptr 2 0)], [(0, 0, .sl (p6.map aA)), (0, 1, .bool p7), (1, 0, .int .i64 0), (1, 1, .str (sB [])), (1, 2, .str (sB [])), (1, 3, .nilS), (1, 4, .nilS), (2, 0, .int .i64 6), (2, 1, .str (sB x1.1.S)), (2, 2, .str (sB [])), (2, 3, .own 3), (2, 4, .nilS)], [(3, .row 4 (l3.map au))], 4⟩) ?_ ?_))))))
  ·clear h_3 h_4 h_5
   refine aB (be hl6 (fun (((more1, p2, p3, l1)) : Bool × (List ax) × Bool × (List aI)) => ⟨[(0, .ptr 0 0), (2, .ptr 1 0), (3, .ptr 2 0), (4, .bool more1)], [(0, 0, .sl (p2.map aA)), (0, 1, .bool p3), (1, 0, .int .i64 0), (1, 1, .str (sB [])), (1, 2, .str (sB [])), (1, 3, .nilS), (1, 4, .nilS), (2, 0, .int .i64 6), (2, 1, .str (sB x1.1.S)), (2, 2, .str (sB [])), (2, 3, .own 3), (2, 4, .nilS)], [(3, .row 4 (l1.map au))], 4⟩) [0,1,3,4] rfl zs ?_)
   intro v o9 ho7 hE8
   obtain ⟨more1, p2, p3, l1⟩ := v
   refine ch (aS (ag (rv Z Z (rn (bw rfl ho7 (fun ho7_1 => ?_) fun ho7_1 => ?_)))))
   ·clear ho7
    refine aK (aS (aB (ag (rv Z Z (mz false Z Z Z Z Z Z Z Z Z Z (bx ho7_1 fun x5 hx10 ho7_2 => rh [0] Z Z (ff hx10) Z Z Z zH zO (eA Z Z Z Z ?_)))))))
    refine ra Z Z Z (rs Z Z Z Z Z Z Z (rn (ag (rg 3 rfl (mz false Z Z Z Z Z Z Z Z Z Z (bx ho7_2 fun l4 hx11 ho7_3 => pu false (z := 4) (xs := l1.map au) (ys := [x5.1].map au) Z Z Z Z Z Z Z (.own Z Z) (.sl Z Z Z) (wM (fun _ => by rfl) _) (oM (fun _ => by rfl) _) (wA au rfl hx11) rfl ?_))))))
    refine rk (congrArg (Kind.row _) (wR au hx11)) (rv Z Z (rs Z Z Z Z Z Z Z (rn (Bg (L := [0,1,2,5,7]) (s' := ⟨[(0, .ptr 0 0), (2, .ptr 1 0), (3, .ptr 2 0), (5, .ptr 3 0)], [(0, 0, .sl (x5.2.L.map aA)), (0, 1, .bool x5.2.Bad), (1, 0, .int .i64 0), (1, 1, .str (sB [])), (1, 2, .str (sB [])), (1, 3, .nilS), (1, 4, .nilS), (2, 0, .int .i64 6), (2, 1, .str (sB x1.1.S)), (2, 2, .str (sB [])), (2, 3, .own 4), (2, 4, .nilS), (3, 0, .str (sB x5.1.Name)), (3, 1, .bool x5.1.Text), (3, 2, .int .i64 x5.1.N), (3, 3, .str (sB x5.1.S))], [(4, .row 4 (l4.map au))], 5⟩) zs rfl (Eu 10 [] Tryz.mix (xv [] Z Z (fun _ => rfl) (xv [] Z Z (fun _ => rfl) (xv [3] Z Z (fun _ => rfl) (xv [] Z Z (fun _ => rfl) (xv [2] Z Z (fun _ => rfl) (bx ho7_3 fun x7 hx13 ho7_4 => xV [4] Z Z (fun _ => Dl Z Z Z Z Z (iF hx13) (kG au hx13) (wM (fun _ => by rfl) _)) ?_)))))))))))
    refine xv [] Z Z (fun _ => rfl) (xv [] Z Z (fun _ => rfl) (xv [] Z Z (fun _ => rfl) (bx ho7_4 fun x8 hx14 ho7_5 => ?_)))
    refine xE [0] (.tup []) 5 _ _ Z Z (by
      refine rh [0] Z Z (dl hx14) Z Z Z (zC Z Z Z Z (zC Z Z Z Z (trivial))) (trivial) ?_
      refine ek ?_
      refine HK rfl ?_
      refine ae Z Z Z ?_
      exact rn ⟨rfl, rfl⟩) (by rfl) (by rfl) (by rfl) ?_
    refine xn (by kernel_rfl) (rn (ah (aR (rv Z Z (bx ho7_5 fun more3 hx15 ho7_6 => rh [0] Z Z (bo hx15) Z Z Z zH zO (eA Z Z Z Z ?_))))))
    exact rv Z Z (rn (si ho7_6 ▸ lN [0,1,2,4]))
   clear ho7
   refine aW (xX ?_)
   cases ho7_1
   have hq := hE8 _ rfl
   subst hq
   exact cN [0,1,2,3]
  clear h_3 h_4 h_5
  rintro ⟨p6, p7, l3⟩ rfl
  refine ch (ag (rg 2 rfl (bx h_6 fun x9 hx16 h_7 => rh [0] Z Z (bo hx16) Z Z Z zH zO (eA Z Z Z Z ?_))))
  refine bx h_7 fun x10 hx17 h_8 => rh [0] Z Z (dl hx17) Z Z Z zH zO (eA Z Z Z Z ?_)
  refine rn (ag (rv Z Z (rs Z Z Z Z Z Z Z (rn (aT ?_)))))
  obtain rfl := si h_8
  refine rW ?_
  exact rA [0]
 clear h h_1 h_2
 refine ag (rv Z Z (bx h_3 fun x11 hx18 h_4 => rh [0] Z Z (bo hx18) Z Z Z zH zO (eA Z Z Z Z ?_)))
 refine rv Z Z (rn (bw rfl h_4 (fun h_5 => ?_) fun h_5 => ?_))
 ·clear h_3 h_4
  refine ag (rv Z Z (rs Z Z Z Z Z Z Z (rn (ag (rv Z Z (mz false Z Z Z Z Z Z Z Z Z Z (bx h_5 fun x12 hx19 h_6 => rh [0] Z Z (ff hx19) Z Z Z zH zO (eA Z Z Z Z ?_))))))))
  refine mz false Z Z Z Z Z Z Z Z Z Z (rv Z Z (rs Z Z Z Z Z Z Z (rn (ag (rv Z Z (rs Z Z Z Z Z Z Z (rn (aT ?_))))))))
  obtain rfl := si h_6
  refine rW ?_
  exact rA [0]
 clear h_3 h_4
 refine aK (ah (ag (rv Z Z (rs Z Z Z Z Z Z Z (rn (ag (rv Z Z (mz false Z Z Z Z Z Z Z Z Z Z (bx h_5 fun x13 hx20 h_6 => rh [0] Z Z (fG hx20) Z Z Z zH zO (eA Z Z Z Z ?_))))))))))
 refine rg 2 rfl (rs Z Z Z Z Z Z Z (rn (aS (Eu 6 [] Tryz.mix (xv [] Z Z (fun _ => rfl) (bx h_6 fun x16 hx23 h_7 => xc [] Z Z Z (fun _ => rfl) (fun _ => (oC hx23)) (xv [] Z Z (fun _ => rfl) (xv [3] Z Z (fun _ => rfl) (bx h_7 fun x17 hx24 h_8 => xc [] Z Z Z (fun _ => rfl) (fun _ => (eg hx24)) (bx h_8 fun x18 hx25 h_9 => ?_))))))))))
 refine xE [0] (.tup []) 5 _ _ Z Z (by
     refine rh [0] Z Z (dl hx25) Z Z Z (zC Z Z Z Z (zC Z Z Z Z (trivial))) (trivial) ?_
     refine ek ?_
     refine HK rfl ?_
     refine ae Z Z Z ?_
     exact rn ⟨rfl, rfl⟩) (by rfl) (by rfl) (by rfl) ?_
 refine xn (by kernel_rfl) (rn (ag (rv Z Z (mz false Z Z Z Z Z Z Z Z Z Z (bx h_9 fun x19 hx26 h_10 => rh [0] Z Z (ff hx26) Z Z Z zH zO (eA Z Z Z Z ?_))))))
 refine mz false Z Z Z Z Z Z Z Z Z Z (rv Z Z (rs Z Z Z Z Z Z Z (rn (ag (rv Z Z (rs Z Z Z Z Z Z Z (rn (aT ?_))))))))
 obtain rfl := si h_10
 refine rW ?_
 exact rA [0]
mutual
def cZ : Nat → aj → Option (aa × aj)
 | 0, _ => none
 | fu + 1, p1 => (cu fu p1 2 [111, 114]).bind fun x1 => match x1 with | (.mk kind1 name1 op1 vals1 l1, x2) => some ((aa.mk kind1 name1 op1 vals1 l1), x2)
def cu : Nat → aj → Int → aY → Option (aa × aj)
 | 0, _, _, _ => none
 | fu + 1, p1, kind1, word1 => (cj fu p1).bind fun x1 => match x1 with | (.mk kind2 name1 op1 vals1 l1, x2) => (bm (ε := (List ax) × Bool × (List aa)) (τ := (List ax) × Bool × (List aa)) (fun (((p2, p3, l2)) : (List ax) × Bool × (List aa)) => ((aN fu (aj.mk p2 p3) word1).bind fun x5 => bif x5.1 then ((cj fu x5.2).bind fun l5 => match l5 with | (.mk kind3 name2 op2 vals2 l6, l7) => (ap l2 [(aa.mk kind3 name2 op2 vals2 l6)]).bind fun l8 => some (Sum.inl (l7.L, l7.Bad, l8))) else some (Sum.inr (x5.2.L, x5.2.Bad, l2)))) fu (x2.L, x2.Bad, [(aa.mk kind2 name1 op1 vals1 l1)])).bind fun (((x3, x4, l4)) : (List ax) × Bool × (List aa)) => (bif ((l4.length : Int) == 1) then some ((aa.mk kind2 name1 op1 vals1 l1), (aj.mk x3 x4)) else ((bm (ε := Int × (List aa)) (τ := List aa) (fun (((x6, l9)) : Int × (List aa)) => (bif (decide (x6 < (l4.length : Int))) then (((gi l4 x6).bind fun x8 => match x8 with | .mk kind4 name3 op3 vals3 l13 => bif (kind4 == kind1) then ((ap l9 l13).bind fun l14 => some l14) else ((ap l9 [(aa.mk kind4 name3 op3 vals3 l13)]).bind fun l15 => some l15) : Option (List aa)).bind fun (l12 : List aa) => some (Sum.inl (W (x6 + 1), l12))) else some (Sum.inr l9))) fu (0, [])).bind fun (l11 : List aa) => some ((aa.mk kind1 [] [] [] l11), (aj.mk x3 x4))))
def cj : Nat → aj → Option (aa × aj)
 | 0, _ => none
 | fu + 1, p1 => (cy fu p1 1 [97, 110, 100]).bind fun x1 => match x1 with | (.mk kind1 name1 op1 vals1 l1, x2) => some ((aa.mk kind1 name1 op1 vals1 l1), x2)
def cy : Nat → aj → Int → aY → Option (aa × aj)
 | 0, _, _, _ => none
 | fu + 1, p1, kind1, word1 => (bF fu p1).bind fun x1 => match x1 with | (.mk kind2 name1 op1 vals1 l1, x2) => (bm (ε := (List ax) × Bool × (List aa)) (τ := (List ax) × Bool × (List aa)) (fun (((p2, p3, l2)) : (List ax) × Bool × (List aa)) => ((aN fu (aj.mk p2 p3) word1).bind fun x5 => bif x5.1 then ((bF fu x5.2).bind fun l5 => match l5 with | (.mk kind3 name2 op2 vals2 l6, l7) => (ap l2 [(aa.mk kind3 name2 op2 vals2 l6)]).bind fun l8 => some (Sum.inl (l7.L, l7.Bad, l8))) else some (Sum.inr (x5.2.L, x5.2.Bad, l2)))) fu (x2.L, x2.Bad, [(aa.mk kind2 name1 op1 vals1 l1)])).bind fun (((x3, x4, l4)) : (List ax) × Bool × (List aa)) => (bif ((l4.length : Int) == 1) then some ((aa.mk kind2 name1 op1 vals1 l1), (aj.mk x3 x4)) else ((bm (ε := Int × (List aa)) (τ := List aa) (fun (((x6, l9)) : Int × (List aa)) => (bif (decide (x6 < (l4.length : Int))) then (((gi l4 x6).bind fun x8 => match x8 with | .mk kind4 name3 op3 vals3 l13 => bif (kind4 == kind1) then ((ap l9 l13).bind fun l14 => some l14) else ((ap l9 [(aa.mk kind4 name3 op3 vals3 l13)]).bind fun l15 => some l15) : Option (List aa)).bind fun (l12 : List aa) => some (Sum.inl (W (x6 + 1), l12))) else some (Sum.inr l9))) fu (0, [])).bind fun (l11 : List aa) => some ((aa.mk kind1 [] [] [] l11), (aj.mk x3 x4))))
def bF : Nat → aj → Option (aa × aj)
 | 0, _ => none
 | fu + 1, p1 => (aN fu p1 [110, 111, 116]).bind fun x1 => bif x1.1 then ((bF fu x1.2).bind fun x2 => match x2 with | (.mk kind1 name1 op1 vals1 l1, x3) => some ((aa.mk 3 [] [] [] [(aa.mk kind1 name1 op1 vals1 l1)]), x3)) else ((aN fu x1.2 [40]).bind fun x4 => bif x4.1 then ((cZ fu x4.2).bind fun x5 => match x5 with | (.mk kind2 name2 op2 vals2 l2, x6) => (aN fu x6 [41]).bind fun x7 => (bp fu x7.2 x7.1).bind fun x8 => some ((aa.mk kind2 name2 op2 vals2 l2), x8)) else ((aN fu x4.2 [116, 114, 117, 101]).bind fun x9 => bif x9.1 then some ((aa.mk 7 [] [] [] []), x9.2) else ((dP fu x9.2).bind fun x10 => match x10 with | (.mk kind3 name3 op3 vals3 l3, x11) => some ((aa.mk kind3 name3 op3 vals3 l3), x11))))
end
abbrev ce (fu : Nat) : Prop := ∀ {p1} {r : aa × aj}, cZ fu p1 = some r → aP Tryz.prog 78 1 [.ptr 0 0] [(0, 0, .sl (p1.L.map aA)), (0, 1, .bool p1.Bad)] [] (fun r_ H_ O_ n_ => r_ = .agg (bd r.1) ∧ H_ = [(0, 0, .sl (r.2.L.map aA)), (0, 1, .bool r.2.Bad)] ∧ O_ = [] ∧ n_ = 1)
abbrev bL (fu : Nat) : Prop := ∀ {p1 kind1 word1} {r : aa × aj}, cu fu p1 kind1 word1 = some r → aP Tryz.prog 124 1 [.ptr 0 0, .int .i64 kind1, .str (sB word1), .bfn 125 [.ptr 0 0]] [(0, 0, .sl (p1.L.map aA)), (0, 1, .bool p1.Bad)] [] (fun r_ H_ O_ n_ => r_ = .agg (bd r.1) ∧ H_ = [(0, 0, .sl (r.2.L.map aA)), (0, 1, .bool r.2.Bad)] ∧ O_ = [] ∧ n_ = 1)
abbrev ck (fu : Nat) : Prop := ∀ {p1} {r : aa × aj}, cj fu p1 = some r → aP Tryz.prog 125 1 [.ptr 0 0] [(0, 0, .sl (p1.L.map aA)), (0, 1, .bool p1.Bad)] [] (fun r_ H_ O_ n_ => r_ = .agg (bd r.1) ∧ H_ = [(0, 0, .sl (r.2.L.map aA)), (0, 1, .bool r.2.Bad)] ∧ O_ = [] ∧ n_ = 1)
abbrev bJ (fu : Nat) : Prop := ∀ {p1 kind1 word1} {r : aa × aj}, cy fu p1 kind1 word1 = some r → aP Tryz.prog 124 1 [.ptr 0 0, .int .i64 kind1, .str (sB word1), .bfn 181 [.ptr 0 0]] [(0, 0, .sl (p1.L.map aA)), (0, 1, .bool p1.Bad)] [] (fun r_ H_ O_ n_ => r_ = .agg (bd r.1) ∧ H_ = [(0, 0, .sl (r.2.L.map aA)), (0, 1, .bool r.2.Bad)] ∧ O_ = [] ∧ n_ = 1)
abbrev co (fu : Nat) : Prop := ∀ {p1} {r : aa × aj}, bF fu p1 = some r → aP Tryz.prog 181 1 [.ptr 0 0] [(0, 0, .sl (p1.L.map aA)), (0, 1, .bool p1.Bad)] [] (fun r_ H_ O_ n_ => r_ = .agg (bd r.1) ∧ H_ = [(0, 0, .sl (r.2.L.map aA)), (0, 1, .bool r.2.Bad)] ∧ O_ = [] ∧ n_ = 1)
theorem nX {fu : Nat} (ih_dfilter_parser_or : ce fu) (ih_dfilter_parser_row_and : bL fu) (ih_dfilter_parser_and : ck fu) (ih_dfilter_parser_row_not : bJ fu) (ih_dfilter_parser_not : co fu) : ce (fu + 1) := by
 intro p1 r h
 rw [cZ] at h
 refine nO Tryz.func78 ?_
 refine ag (ra Z Z Z (rn (ag (rg 3 rfl (bx h fun x1 hx1 h_1 => ?_)))))
 obtain ⟨⟨kind1, name1, op1, vals1, l1⟩, x2⟩ := x1
 refine rh [0] Z Z (ih_dfilter_parser_row_and hx1) Z Z Z zH zO (eA Z Z Z Z ?_)
 refine rs Z Z Z Z Z Z Z (rn (aT ?_))
 obtain rfl := si h_1
 refine rW ?_
 exact rA [0]
theorem lu {fu : Nat} (ih_dfilter_parser_or : ce fu) (ih_dfilter_parser_row_and : bL fu) (ih_dfilter_parser_and : ck fu) (ih_dfilter_parser_row_not : bJ fu) (ih_dfilter_parser_not : co fu) : bL (fu + 1) := by
 intro p1 kind1 word1 r h
 rw [cu] at h
 refine nO Tryz.func124 ?_
 refine ag (ra Z Z Z (rn (ag (rv Z Z (bx h fun x1 hx1 h_1 => ?_)))))
 obtain ⟨⟨kind2, name1, op1, vals1, l1⟩, x2⟩ := x1
 refine I2 [0] Z Z (ih_dfilter_parser_and hx1) Z Z Z zH zO (eA Z Z Z Z ?_)
 refine ra Z Z Z (rs Z Z Z Z Z Z Z (rn (ag (rv Z Z (mz false Z Z Z Z Z Z Z Z Z Z (rv Z Z (rn (aS (bx h_1 fun e2 hl3 h_2 => aq (fun x => x = e2) (fun (((x3, x4, l4)) : (List ax) × Bool × (List aa)) => ⟨[(1, .int .i64 kind1), (8, .ptr 1 0), (9, .ptr 2 0), (10, .own 3)], [(0, 0, .sl (x3.map aA)), (0, 1, .bool x4), (1, 0, .int .i64 0), (1, 1, .str (sB [])), (1, 2, .str (sB [])), (1, 3, .nilS), (1, 4, .nilS), (2, 0, .int .i64 kind2), (2, 1, .str (sB name1)), (2, 2, .str (sB op1)), (2, 3, .sl (vals1.map au)), (2, 4, .sl (am l1))], [(3, .row 5 (am l4))], 4⟩) ?_ ?_)))))))))
 ·clear h h_1
  refine aB (be hl3 (fun (((p2, p3, l2)) : (List ax) × Bool × (List aa)) => ⟨[(0, .ptr 0 0), (1, .int .i64 kind1), (2, .str (sB word1)), (3, .bfn 125 [.ptr 0 0]), (8, .ptr 1 0), (9, .ptr 2 0), (10, .own 3)], [(0, 0, .sl (p2.map aA)), (0, 1, .bool p3), (1, 0, .int .i64 0), (1, 1, .str (sB [])), (1, 2, .str (sB [])), (1, 3, .nilS), (1, 4, .nilS), (2, 0, .int .i64 kind2), (2, 1, .str (sB name1)), (2, 2, .str (sB op1)), (2, 3, .sl (vals1.map au)), (2, 4, .sl (am l1))], [(3, .row 5 (am l2))], 4⟩) [0,1,2,3] rfl zs ?_)
  intro v o6 ho4 hE5
  obtain ⟨p2, p3, l2⟩ := v
  refine ch (aS (ag (rg 2 rfl (bx ho4 fun x5 hx7 ho4_1 => rh [0] Z Z (bo hx7) Z Z Z zH zO (eA Z Z Z Z ?_)))))
  refine rn (bw rfl ho4_1 (fun ho4_2 => ?_) fun ho4_2 => ?_)
  ·clear ho4 ho4_1
   refine aK (aB (aR (rg 2 rfl (bx ho4_2 fun l5 hx8 ho4_3 => ?_))))
   obtain ⟨⟨kind3, name2, op2, vals2, l6⟩, l7⟩ := l5
   refine I2 [0] Z Z (ih_dfilter_parser_and hx8) Z Z Z zH zO (eA Z Z Z Z ?_)
   exact mz false Z Z Z Z Z Z Z Z Z Z (bx ho4_3 fun l8 hx9 ho4_4 => pu false (z := 5) (xs := am l2) (ys := am [(aa.mk kind3 name2 op2 vals2 l6)]) Z Z Z Z Z Z Z (.own Z Z) (.sl Z Z Z) (bK _) (eF _) (dX rfl hx9) rfl (rk (congrArg (Kind.row _) (dY hx9)) (rv Z Z (rn (ah (si ho4_4 ▸ lN [0,1,2,5]))))))
  clear ho4 ho4_1
  refine aW (xX ?_)
  cases ho4_2
  have hq := hE5 _ rfl
  subst hq
  exact cN [0,1,2,3]
 clear h h_1
 rintro ⟨x3, x4, l4⟩ rfl
 refine ch (aS (ag (rg 2 rfl (rt ((cp l4)) (rv Z Z (rn (bw rfl h_2 (fun h_3 => ?_) fun h_3 => ?_)))))))
 ·clear h_2
  refine ag (rv Z Z (rs Z Z Z Z Z Z Z (rn (aT ?_))))
  obtain rfl := si h_3
  refine rW ?_
  exact rA [0]
 clear h_2
 refine aK (ag (rg 2 rfl (ra Z Z Z (rs Z Z Z Z Z Z Z (rn (aS (ag (rg 2 rfl (rt ((cp l4)) (rv Z Z (rn (aQ (fun _ _ _ _ _ hi => iX false 5 4 4 rfl hi) (bx h_3 fun e10 hl11 h_4 => aq (fun x => x = e10) (fun (l11 : List aa) => ⟨[(8, .ptr 1 0), (11, .ptr 2 0)], [(0, 0, .sl (x3.map aA)), (0, 1, .bool x4), (1, 0, .int .i64 0), (1, 1, .str (sB [])), (1, 2, .str (sB [])), (1, 3, .nilS), (1, 4, .nilS), (2, 0, .int .i64 kind1), (2, 1, .str (sB [])), (2, 2, .str (sB [])), (2, 3, .nilS), (2, 4, .own 3)], [(3, .row 5 (am l11))], 4⟩) ?_ ?_)))))))))))))
 ·clear h_3
  refine aB (be hl11 (fun (((x6, l9)) : Int × (List aa)) => ⟨[(1, .int .i64 kind1), (8, .ptr 1 0), (11, .ptr 2 0), (32, .own 3), (33, .int .i64 (l4.length : Int)), (34, .int .i64 x6)], [(0, 0, .sl (x3.map aA)), (0, 1, .bool x4), (1, 0, .int .i64 0), (1, 1, .str (sB [])), (1, 2, .str (sB [])), (1, 3, .nilS), (1, 4, .nilS), (2, 0, .int .i64 kind1), (2, 1, .str (sB [])), (2, 2, .str (sB [])), (2, 3, .nilS), (2, 4, .own 4)], [(3, .row 5 (am l4)), (4, .row 5 (am l9))], 5⟩) [0,1,4,3,5] rfl zs ?_)
  intro v o14 ho12 hE13
  obtain ⟨x6, l9⟩ := v
  refine ch (ag (rv Z Z (rn (aS (bw rfl ho12 (fun ho12_1 => ?_) fun ho12_1 => ?_)))))
  ·clear ho12
   refine aK (aS (bx ho12_1 fun o15 ho16 ho12_2 => aq (fun x => x = o15) (fun (l12 : List aa) => ⟨[(1, .int .i64 kind1), (8, .ptr 1 0), (11, .ptr 2 0), (32, .own 3), (33, .int .i64 (l4.length : Int)), (34, .int .i64 x6)], [(0, 0, .sl (x3.map aA)), (0, 1, .bool x4), (1, 0, .int .i64 0), (1, 1, .str (sB [])), (1, 2, .str (sB [])), (1, 3, .nilS), (1, 4, .nilS), (2, 0, .int .i64 kind1), (2, 1, .str (sB [])), (2, 2, .str (sB [])), (2, 3, .nilS), (2, 4, .own 4)], [(3, .row 5 (am l4)), (4, .row 5 (am l12))], 5⟩) ?_ ?_))
   ·clear ho12_1
    refine aB (ag (bx ho16 fun x8 hx17 ho16_1 => ri Z Z Z Z Z Z (iF hx17) (dB hx17) (bK _) ?_))
    obtain ⟨kind4, name3, op3, vals3, l13⟩ := x8
    refine rv Z Z (ra Z Z Z (rs Z Z Z Z Z Z Z (rn (ag (rg 4 rfl (rn (bw rfl ho16_1 (fun ho16_2 => ?_) fun ho16_2 => ?_)))))))
    ·clear ho16 ho16_1
     exact aR (rg 4 rfl (bx ho16_2 fun l14 hx18 ho16_3 => pu false (z := 5) (xs := am l9) (ys := am l13) Z Z Z Z Z Z Z (.own Z Z) (.sl Z Z Z) (bK _) (eF _) (dX rfl hx18) rfl (rk (congrArg (Kind.row _) (dY hx18)) (rv Z Z (rs Z Z Z Z Z Z Z (rn (ah (si ho16_3 ▸ cN [0,1,2,3,6]))))))))
    clear ho16 ho16_1
    exact aR (rg 3 rfl (mz false Z Z Z Z Z Z Z Z Z Z (bx ho16_2 fun l15 hx19 ho16_3 => pu false (z := 5) (xs := am l9) (ys := am [(aa.mk kind4 name3 op3 vals3 l13)]) Z Z Z Z Z Z Z (.own Z Z) (.sl Z Z Z) (bK _) (eF _) (dX rfl hx19) rfl (rk (congrArg (Kind.row _) (dY hx19)) (rv Z Z (rs Z Z Z Z Z Z Z (rn (ah (si ho16_3 ▸ cN [0,1,2,3,7])))))))))
   clear ho12_1
   rintro l12 rfl
   exact ch (aR (rg 2 rfl (rn (si ho12_2 ▸ lN [0,1,2,3,4]))))
  clear ho12
  refine aW (xX ?_)
  cases ho12_1
  have hq := hE13 _ rfl
  subst hq
  exact cN [0,1,2,4]
 clear h_3
 rintro l11 rfl
 refine ag (rv Z Z (rs Z Z Z Z Z Z Z (rn (aT ?_))))
 obtain rfl := si h_4
 refine rW ?_
 exact rA [0]
theorem mX {fu : Nat} (ih_dfilter_parser_or : ce fu) (ih_dfilter_parser_row_and : bL fu) (ih_dfilter_parser_and : ck fu) (ih_dfilter_parser_row_not : bJ fu) (ih_dfilter_parser_not : co fu) : ck (fu + 1) := by
 intro p1 r h
 rw [cj] at h
 refine nO Tryz.func125 ?_
 refine ag (ra Z Z Z (rn (ag (rg 3 rfl (bx h fun x1 hx1 h_1 => ?_)))))
 obtain ⟨⟨kind1, name1, op1, vals1, l1⟩, x2⟩ := x1
 refine rh [0] Z Z (ih_dfilter_parser_row_not hx1) Z Z Z zH zO (eA Z Z Z Z ?_)
 refine rs Z Z Z Z Z Z Z (rn (aT ?_))
 obtain rfl := si h_1
 refine rW ?_
 exact rA [0]
theorem kY {fu : Nat} (ih_dfilter_parser_or : ce fu) (ih_dfilter_parser_row_and : bL fu) (ih_dfilter_parser_and : ck fu) (ih_dfilter_parser_row_not : bJ fu) (ih_dfilter_parser_not : co fu) : bJ (fu + 1) := by
 intro p1 kind1 word1 r h
 rw [cy] at h
 refine nO Tryz.func124 ?_
 refine ag (ra Z Z Z (rn (ag (rv Z Z (bx h fun x1 hx1 h_1 => ?_)))))
 obtain ⟨⟨kind2, name1, op1, vals1, l1⟩, x2⟩ := x1
 refine I2 [0] Z Z (ih_dfilter_parser_not hx1) Z Z Z zH zO (eA Z Z Z Z ?_)
 refine ra Z Z Z (rs Z Z Z Z Z Z Z (rn (ag (rv Z Z (mz false Z Z Z Z Z Z Z Z Z Z (rv Z Z (rn (aS (bx h_1 fun e2 hl3 h_2 => aq (fun x => x = e2) (fun (((x3, x4, l4)) : (List ax) × Bool × (List aa)) => ⟨[(1, .int .i64 kind1), (8, .ptr 1 0), (9, .ptr 2 0), (10, .own 3)], [(0, 0, .sl (x3.map aA)), (0, 1, .bool x4), (1, 0, .int .i64 0), (1, 1, .str (sB [])), (1, 2, .str (sB [])), (1, 3, .nilS), (1, 4, .nilS), (2, 0, .int .i64 kind2), (2, 1, .str (sB name1)), (2, 2, .str (sB op1)), (2, 3, .sl (vals1.map au)), (2, 4, .sl (am l1))], [(3, .row 5 (am l4))], 4⟩) ?_ ?_)))))))))
 ·clear h h_1
  refine aB (be hl3 (fun (((p2, p3, l2)) : (List ax) × Bool × (List aa)) => ⟨[(0, .ptr 0 0), (1, .int .i64 kind1), (2, .str (sB word1)), (3, .bfn 181 [.ptr 0 0]), (8, .ptr 1 0), (9, .ptr 2 0), (10, .own 3)], [(0, 0, .sl (p2.map aA)), (0, 1, .bool p3), (1, 0, .int .i64 0), (1, 1, .str (sB [])), (1, 2, .str (sB [])), (1, 3, .nilS), (1, 4, .nilS), (2, 0, .int .i64 kind2), (2, 1, .str (sB name1)), (2, 2, .str (sB op1)), (2, 3, .sl (vals1.map au)), (2, 4, .sl (am l1))], [(3, .row 5 (am l2))], 4⟩) [0,1,2,3] rfl zs ?_)
  intro v o6 ho4 hE5
  obtain ⟨p2, p3, l2⟩ := v
  refine ch (aS (ag (rg 2 rfl (bx ho4 fun x5 hx7 ho4_1 => rh [0] Z Z (bo hx7) Z Z Z zH zO (eA Z Z Z Z ?_)))))
  refine rn (bw rfl ho4_1 (fun ho4_2 => ?_) fun ho4_2 => ?_)
  ·clear ho4 ho4_1
   refine aK (aB (aR (rg 2 rfl (bx ho4_2 fun l5 hx8 ho4_3 => ?_))))
   obtain ⟨⟨kind3, name2, op2, vals2, l6⟩, l7⟩ := l5
   refine I2 [0] Z Z (ih_dfilter_parser_not hx8) Z Z Z zH zO (eA Z Z Z Z ?_)
   exact mz false Z Z Z Z Z Z Z Z Z Z (bx ho4_3 fun l8 hx9 ho4_4 => pu false (z := 5) (xs := am l2) (ys := am [(aa.mk kind3 name2 op2 vals2 l6)]) Z Z Z Z Z Z Z (.own Z Z) (.sl Z Z Z) (bK _) (eF _) (dX rfl hx9) rfl (rk (congrArg (Kind.row _) (dY hx9)) (rv Z Z (rn (ah (si ho4_4 ▸ lN [0,1,2,5]))))))
  clear ho4 ho4_1
  refine aW (xX ?_)
  cases ho4_2
  have hq := hE5 _ rfl
  subst hq
  exact cN [0,1,2,3]
 clear h h_1
 rintro ⟨x3, x4, l4⟩ rfl
 refine ch (aS (ag (rg 2 rfl (rt ((cp l4)) (rv Z Z (rn (bw rfl h_2 (fun h_3 => ?_) fun h_3 => ?_)))))))
 ·clear h_2
  refine ag (rv Z Z (rs Z Z Z Z Z Z Z (rn (aT ?_))))
  obtain rfl := si h_3
  refine rW ?_
  exact rA [0]
 clear h_2
 refine aK (ag (rg 2 rfl (ra Z Z Z (rs Z Z Z Z Z Z Z (rn (aS (ag (rg 2 rfl (rt ((cp l4)) (rv Z Z (rn (aQ (fun _ _ _ _ _ hi => iX false 5 4 4 rfl hi) (bx h_3 fun e10 hl11 h_4 => aq (fun x => x = e10) (fun (l11 : List aa) => ⟨[(8, .ptr 1 0), (11, .ptr 2 0)], [(0, 0, .sl (x3.map aA)), (0, 1, .bool x4), (1, 0, .int .i64 0), (1, 1, .str (sB [])), (1, 2, .str (sB [])), (1, 3, .nilS), (1, 4, .nilS), (2, 0, .int .i64 kind1), (2, 1, .str (sB [])), (2, 2, .str (sB [])), (2, 3, .nilS), (2, 4, .own 3)], [(3, .row 5 (am l11))], 4⟩) ?_ ?_)))))))))))))
 ·clear h_3
  refine aB (be hl11 (fun (((x6, l9)) : Int × (List aa)) => ⟨[(1, .int .i64 kind1), (8, .ptr 1 0), (11, .ptr 2 0), (32, .own 3), (33, .int .i64 (l4.length : Int)), (34, .int .i64 x6)], [(0, 0, .sl (x3.map aA)), (0, 1, .bool x4), (1, 0, .int .i64 0), (1, 1, .str (sB [])), (1, 2, .str (sB [])), (1, 3, .nilS), (1, 4, .nilS), (2, 0, .int .i64 kind1), (2, 1, .str (sB [])), (2, 2, .str (sB [])), (2, 3, .nilS), (2, 4, .own 4)], [(3, .row 5 (am l4)), (4, .row 5 (am l9))], 5⟩) [0,1,4,3,5] rfl zs ?_)
  intro v o14 ho12 hE13
  obtain ⟨x6, l9⟩ := v
  refine ch (ag (rv Z Z (rn (aS (bw rfl ho12 (fun ho12_1 => ?_) fun ho12_1 => ?_)))))
  ·clear ho12
   refine aK (aS (bx ho12_1 fun o15 ho16 ho12_2 => aq (fun x => x = o15) (fun (l12 : List aa) => ⟨[(1, .int .i64 kind1), (8, .ptr 1 0), (11, .ptr 2 0), (32, .own 3), (33, .int .i64 (l4.length : Int)), (34, .int .i64 x6)], [(0, 0, .sl (x3.map aA)), (0, 1, .bool x4), (1, 0, .int .i64 0), (1, 1, .str (sB [])), (1, 2, .str (sB [])), (1, 3, .nilS), (1, 4, .nilS), (2, 0, .int .i64 kind1), (2, 1, .str (sB [])), (2, 2, .str (sB [])), (2, 3, .nilS), (2, 4, .own 4)], [(3, .row 5 (am l4)), (4, .row 5 (am l12))], 5⟩) ?_ ?_))
   ·clear ho12_1
    refine aB (ag (bx ho16 fun x8 hx17 ho16_1 => ri Z Z Z Z Z Z (iF hx17) (dB hx17) (bK _) ?_))
    obtain ⟨kind4, name3, op3, vals3, l13⟩ := x8
    refine rv Z Z (ra Z Z Z (rs Z Z Z Z Z Z Z (rn (ag (rg 4 rfl (rn (bw rfl ho16_1 (fun ho16_2 => ?_) fun ho16_2 => ?_)))))))
    ·clear ho16 ho16_1
     exact aR (rg 4 rfl (bx ho16_2 fun l14 hx18 ho16_3 => pu false (z := 5) (xs := am l9) (ys := am l13) Z Z Z Z Z Z Z (.own Z Z) (.sl Z Z Z) (bK _) (eF _) (dX rfl hx18) rfl (rk (congrArg (Kind.row _) (dY hx18)) (rv Z Z (rs Z Z Z Z Z Z Z (rn (ah (si ho16_3 ▸ cN [0,1,2,3,6]))))))))
    clear ho16 ho16_1
    exact aR (rg 3 rfl (mz false Z Z Z Z Z Z Z Z Z Z (bx ho16_2 fun l15 hx19 ho16_3 => pu false (z := 5) (xs := am l9) (ys := am [(aa.mk kind4 name3 op3 vals3 l13)]) Z Z Z Z Z Z Z (.own Z Z) (.sl Z Z Z) (bK _) (eF _) (dX rfl hx19) rfl (rk (congrArg (Kind.row _) (dY hx19)) (rv Z Z (rs Z Z Z Z Z Z Z (rn (ah (si ho16_3 ▸ cN [0,1,2,3,7])))))))))
   clear ho12_1
   rintro l12 rfl
   exact ch (aR (rg 2 rfl (rn (si ho12_2 ▸ lN [0,1,2,3,4]))))
  clear ho12
  refine aW (xX ?_)
  cases ho12_1
  have hq := hE13 _ rfl
  subst hq
  exact cN [0,1,2,4]
 clear h_3
 rintro l11 rfl
 refine ag (rv Z Z (rs Z Z Z Z Z Z Z (rn (aT ?_))))
 obtain rfl := si h_4
 refine rW ?_
 exact rA [0]
theorem m0 {fu : Nat} (ih_dfilter_parser_or : ce fu) (ih_dfilter_parser_row_and : bL fu) (ih_dfilter_parser_and : ck fu) (ih_dfilter_parser_row_not : bJ fu) (ih_dfilter_parser_not : co fu) : co (fu + 1) := by
 intro p1 r h
 rw [bF] at h
 refine nO Tryz.func181 ?_
 refine ag (ra Z Z Z (rn (aS (aB (ag (rv Z Z (bx h fun x1 hx1 h_1 => rh [0] Z Z (bo hx1) Z Z Z zH zO (eA Z Z Z Z ?_))))))))
 refine rv Z Z (rn (bw rfl h_1 (fun h_2 => ?_) fun h_2 => ?_))
 ·clear h h_1
  refine ag (rv Z Z (bx h_2 fun x2 hx2 h_3 => ?_))
  obtain ⟨⟨kind1, name1, op1, vals1, l1⟩, x3⟩ := x2
  refine rh [0] Z Z (ih_dfilter_parser_not hx2) Z Z Z zH zO (eA Z Z Z Z ?_)
  refine mz false Z Z Z Z Z Z Z Z Z Z (rv Z Z (rs Z Z Z Z Z Z Z (rn (aT ?_))))
  obtain rfl := si h_3
  refine rW ?_
  exact rA [0]
 clear h h_1
 refine ag (rv Z Z (bx h_2 fun x4 hx3 h_3 => rh [0] Z Z (bo hx3) Z Z Z zH zO (eA Z Z Z Z ?_)))
 refine rv Z Z (rn (bw rfl h_3 (fun h_4 => ?_) fun h_4 => ?_))
 ·clear h_2 h_3
  refine ag (rv Z Z (bx h_4 fun x5 hx4 h_5 => ?_))
  obtain ⟨⟨kind2, name2, op2, vals2, l2⟩, x6⟩ := x5
  refine rh [0] Z Z (ih_dfilter_parser_or hx4) Z Z Z zH zO (eA Z Z Z Z ?_)
  refine ra Z Z Z (rs Z Z Z Z Z Z Z (rn (ag (rg 2 rfl (bx h_5 fun x7 hx5 h_6 => rh [0] Z Z (bo hx5) Z Z Z zH zO (eA Z Z Z Z ?_))))))
  refine bx h_6 fun x8 hx6 h_7 => rh [0] Z Z (dl hx6) Z Z Z zH zO (eA Z Z Z Z ?_)
  refine rn (ag (rv Z Z (rs Z Z Z Z Z Z Z (rn (aT ?_)))))
  obtain rfl := si h_7
  refine rW ?_
  exact rA [0]
 clear h_2 h_3
 refine ag (rv Z Z (bx h_4 fun x9 hx7 h_5 => rh [0] Z Z (bo hx7) Z Z Z zH zO (eA Z Z Z Z ?_)))
 refine rv Z Z (rn (bw rfl h_5 (fun h_6 => ?_) fun h_6 => ?_))
 ·clear h_4 h_5
  refine ag (rv Z Z (rs Z Z Z Z Z Z Z (rn (aT ?_))))
  obtain rfl := si h_6
  refine rW ?_
  exact rA [0]
 clear h_4 h_5
 refine aK (ah (ag (rv Z Z (bx h_6 fun x10 hx8 h_7 => ?_))))
 obtain ⟨⟨kind3, name3, op3, vals3, l3⟩, x11⟩ := x10
 refine rh [0] Z Z (mN hx8) Z Z Z zH zO (eA Z Z Z Z ?_)
 refine rs Z Z Z Z Z Z Z (rn (aT ?_))
 obtain rfl := si h_7
 refine rW ?_
 exact rA [0]
end
theorem iE : ∀ fu : Nat, ce fu ∧ bL fu ∧ ck fu ∧ bJ fu ∧ co fu
 | 0 => ⟨fun h => by simp [cZ] at h, fun h => by simp [cu] at h, fun h => by simp [cj] at h, fun h => by simp [cy] at h, fun h => by simp [bF] at h⟩
 | fu + 1 => by
  obtain ⟨i0, i1, i2, i3, i4⟩ := iE fu
  exact ⟨nX i0 i1 i2 i3 i4, lu i0 i1 i2 i3 i4, mX i0 i1 i2 i3 i4, kY i0 i1 i2 i3 i4, m0 i0 i1 i2 i3 i4⟩
theorem oe {fu : Nat} : ce fu := (iE fu).1
def cY (fu : Nat) (s1 : aY) : Option (aa × Er) :=
 (iU fu s1).bind fun l1 => bif l1.2.isSome then some ((aa.mk 0 [] [] [] []), l1.2) else ((cZ fu (aj.mk l1.1 false)).bind fun x1 => match x1 with | (.mk kind1 name1 op1 vals1 l2, x2) => (bif x2.Bad then some true else some (decide ((x2.L.length : Int) > 0)) : Option Bool).bind fun (x3 : Bool) => (bif x3 then some ((aa.mk 0 [] [] [] []), (some 3)) else ((jw fu (aa.mk kind1 name1 op1 vals1 l2)).bind fun x4 => bif (!x4) then some ((aa.mk 0 [] [] [] []), (some 5)) else some ((aa.mk kind1 name1 op1 vals1 l2), none))))
section
attribute [local irreducible] cg aM DP ai aP Decidable.decide
theorem sk {fu : Nat} {s1 : aY} {r : aa × Er} (h : cY fu s1 = some r) : ai Tryz.prog 44 [.str (sB s1)] (· = .tup [.agg (bd r.1), .err 55 r.2]) := by
 rw [cY] at h
 refine cf Tryz.func44 ?_
 refine ag (ra Z Z Z (rv Z Z (rn (ag (rv Z Z (bx h fun l1 hx1 h_1 => bt Z Z Z (pH hx1) (rg 5 rfl (rn (aS (ag (rv Z Z (rV rfl (jo Z Z Z) (rn (bw rfl h_1 (fun h_2 => ?_) fun h_2 => ?_))))))))))))))
 ·clear h h_1
  exact ag (rg 2 rfl (rs Z Z Z Z Z Z Z (rv Z Z (rn (aT (si h_2 ▸ rF))))))
 clear h h_1
 refine aK (ag (rg 2 rfl (rb Z Z (rv Z Z (rn (ag (rv Z Z (bx h_2 fun x1 hx2 h_3 => ?_))))))))
 obtain ⟨⟨kind1, name1, op1, vals1, l2⟩, x2⟩ := x1
 refine rh [1] Z Z (oe hx2) Z Z Z zH zO (eA Z Z Z Z ?_)
 refine ra Z Z Z (rs Z Z Z Z Z Z Z (rn (aS (aB (aS (bx h_3 fun o3 ho4 h_4 => aq (fun x => x = o3) (fun (x3 : Bool) => ⟨[(2, .ptr 0 0), (7, .ptr 1 0), (22, .bool x3)], [(0, 0, .int .i64 0), (0, 1, .str (sB [])), (0, 2, .str (sB [])), (0, 3, .nilS), (0, 4, .nilS), (1, 0, .int .i64 kind1), (1, 1, .str (sB name1)), (1, 2, .str (sB op1)), (1, 3, .sl (vals1.map au)), (1, 4, .sl (am l2))], [], 2⟩) ?_ ?_))))))
 ·clear h_2 h_3
  refine aR (rg 5 rfl (eN Z Z Z Z Z ho4 (fun ho4_1 => ?_) fun ho4_1 => ?_))
  ·clear ho4
   exact rg 5 rfl (rt ((lM aA x2.L)) (rg 3 rfl (rn (si ho4_1 ▸ cN [0,2]))))
  clear ho4
  exact rg 7 rfl (rn (si ho4_1 ▸ cN [0,2]))
 clear h_2 h_3
 rintro x3 rfl
 refine ch (bw rfl h_4 (fun h_5 => ?_) fun h_5 => ?_)
 ·clear h_4
  exact ag (rg 2 rfl (rs Z Z Z Z Z Z Z (rv Z Z (rn (aQ (fun _ _ _ _ _ hi => dF 55 3 (some 3) rfl hi) (aT (si h_5 ▸ rF)))))))
 clear h_4
 refine ag (rv Z Z (bx h_5 fun x4 hx5 h_6 => bt Z Z Z (uL hx5) (rg 2 rfl (rn (bw rfl h_6 (fun h_7 => ?_) fun h_7 => ?_)))))
 ·clear h_5 h_6
  exact ag (rg 2 rfl (rs Z Z Z Z Z Z Z (rv Z Z (rn (aQ (fun _ _ _ _ _ hi => dF 55 3 (some 5) rfl hi) (aT (si h_7 ▸ rF)))))))
 clear h_5 h_6
 exact aK (ah (ag (rv Z Z (rs Z Z Z Z Z Z Z (rv Z Z (rn (aQ (fun _ _ _ _ _ hi => dF 55 3 none rfl hi) (aT (si h_7 ▸ rF)))))))))
end
def fg (fu : Nat) (a1 : aY) (b1 : aY) : Option Int :=
 (some (Lib.compareBytes a1 b1)).bind fun x1 => some x1
section
attribute [local irreducible] cg aM DP ai aP Decidable.decide
theorem lq {fu : Nat} {a1 : aY} {b1 : aY} {r : Int} (h : fg fu a1 b1 = some r) : ai Tryz.prog 240 [.str (sB a1), .str (sB b1)] (· = .int .i64 r) := by
 rw [fg] at h
 refine cf Tryz.func240 ?_
 refine ag (rv Z Z (rn (ag (rg 2 rfl (rV rfl (G6 Tryz.func259 (by kernel_rfl) (by kernel_rfl) (by kernel_rfl) (by kernel_rfl) Z Z) (rv Z Z ?_))))))
 obtain ⟨x1, hx1, h_1⟩ := bs h
 exact rt (Ew hx1) (rn (aT (si h_1 ▸ rF)))
def gt (fu : Nat) (a1 : aY) (b1 : aY) : Option Int :=
 (fg fu a1 b1).bind fun x1 => some x1
theorem oO {fu : Nat} {a1 : aY} {b1 : aY} {r : Int} (h : gt fu a1 b1 = some r) : ai Tryz.prog 212 [.str (sB a1), .str (sB b1)] (· = .int .i64 r) := by
 rw [gt] at h
 refine cf Tryz.func212 ?_
 exact ag (rv Z Z (rn (ag (rg 2 rfl (bx h fun x1 hx1 h_1 => bt Z Z Z (lq hx1) (rv Z Z (rn (aT (si h_1 ▸ rF)))))))))
def eT (fu : Nat) (x1 : Int) : Option Bool :=
 some (x1 != x1)
theorem kl {fu : Nat} {x1 : Int} {r : Bool} (h : eT fu x1 = some r) : ai Tryz.prog 239 [.int .i64 x1] (· = .bool r) := by
 rw [eT] at h
 refine cf Tryz.func239 ?_
 exact ag (rv Z Z (rn (ag (rg 4 rfl (rn (aT (si h ▸ rF)))))))
def ea (fu : Nat) (x1 : Int) (y1 : Int) : Option Int :=
 (eT fu x1).bind fun xNaN1 => (eT fu y1).bind fun yNaN1 => bif xNaN1 then (bif yNaN1 then some 0 else some (-1)) else (bif yNaN1 then some 1 else (bif (decide (x1 < y1)) then some (-1) else (bif (decide (x1 > y1)) then some 1 else some 0)))
theorem mS {fu : Nat} {x1 : Int} {y1 : Int} {r : Int} (h : ea fu x1 y1 = some r) : ai Tryz.prog 209 [.int .i64 x1, .int .i64 y1] (· = .int .i64 r) := by
 rw [ea] at h
 refine cf Tryz.func209 ?_
 refine ag (rv Z Z (rn (ag (rv Z Z (bx h fun xNaN1 hx1 h_1 => bt Z Z Z (kl hx1) (rv Z Z (rn (ag (rv Z Z (bx h_1 fun yNaN1 hx2 h_2 => bt Z Z Z (kl hx2) (rv Z Z (rn (aS (ag (rv Z Z (rn (bw rfl h_2 (fun h_3 => ?_) fun h_3 => ?_)))))))))))))))))
 ·clear h h_1 h_2
  refine aS (ag (rv Z Z (rn (bw rfl h_3 (fun h_4 => ?_) fun h_4 => ?_))))
  ·clear h_3
   exact ag (rv Z Z (rn (aT (si h_4 ▸ rF))))
  clear h_3
  exact aK (ag (rv Z Z (rn (aT (si h_4 ▸ rF)))))
 clear h h_1 h_2
 refine aK (aS (ag (rv Z Z (rn (bw rfl h_3 (fun h_4 => ?_) fun h_4 => ?_)))))
 ·clear h_3
  exact ag (rv Z Z (rn (aT (si h_4 ▸ rF))))
 clear h_3
 refine aK (aS (ag (rg 3 rfl (rn (bw rfl h_4 (fun h_5 => ?_) fun h_5 => ?_)))))
 ·clear h_4
  exact ag (rv Z Z (rn (aT (si h_5 ▸ rF))))
 clear h_4
 refine aK (aS (ag (rg 3 rfl (rn (bw rfl h_5 (fun h_6 => ?_) fun h_6 => ?_)))))
 ·clear h_5
  exact ag (rv Z Z (rn (aT (si h_6 ▸ rF))))
 clear h_5
 exact aK (ag (rv Z Z (rn (aT (si h_6 ▸ rF)))))
def iq (fu : Nat) (op1 : aY) (n1 : Int) : Option Bool :=
 bif (op1 == [60]) then some (decide (n1 < 0)) else (bif (op1 == [60, 61]) then some (decide (n1 ≤ 0)) else (bif (op1 == [61]) then some (n1 == 0) else (bif (op1 == [33, 61]) then some (n1 != 0) else (bif (op1 == [62, 61]) then some (decide (n1 ≥ 0)) else (bif (op1 == [62]) then some (decide (n1 > 0)) else some false)))))
theorem tf {fu : Nat} {op1 : aY} {n1 : Int} {r : Bool} (h : iq fu op1 n1 = some r) : ai Tryz.prog 157 [.str (sB op1), .int .i64 n1] (· = .bool r) := by
 rw [iq] at h
 refine cf Tryz.func157 ?_
 refine ag (rv Z Z (rn (aS (ag (rv Z Z (rn (aB (ag (rv Z Z (rt (jH op1 [60]) (rv Z Z (rn (bw rfl h (fun h_1 => ?_) fun h_1 => ?_)))))))))))))
 ·clear h
  exact ag (rg 3 rfl (rn (aT (si h_1 ▸ rF))))
 clear h
 refine ag (rv Z Z (rt (jH op1 [60, 61]) (rv Z Z (rn (bw rfl h_1 (fun h_2 => ?_) fun h_2 => ?_)))))
 ·clear h_1
  exact ag (rg 3 rfl (rn (aT (si h_2 ▸ rF))))
 clear h_1
 refine ag (rv Z Z (rt (jH op1 [61]) (rv Z Z (rn (bw rfl h_2 (fun h_3 => ?_) fun h_3 => ?_)))))
 ·clear h_2
  exact ag (rg 3 rfl (rn (aT (si h_3 ▸ rF))))
 clear h_2
 refine ag (rv Z Z (rt (jH op1 [33, 61]) (rv Z Z (rn (bw rfl h_3 (fun h_4 => ?_) fun h_4 => ?_)))))
 ·clear h_3
  exact ag (rg 3 rfl (rn (aT (si h_4 ▸ rF))))
 clear h_3
 refine ag (rv Z Z (rt (jH op1 [62, 61]) (rv Z Z (rn (bw rfl h_4 (fun h_5 => ?_) fun h_5 => ?_)))))
 ·clear h_4
  exact ag (rg 3 rfl (rn (aT (si h_5 ▸ rF))))
 clear h_4
 refine ag (rv Z Z (rt (jH op1 [62]) (rv Z Z (rn (bw rfl h_5 (fun h_6 => ?_) fun h_6 => ?_)))))
 ·clear h_5
  exact ag (rg 3 rfl (rn (aT (si h_6 ▸ rF))))
 clear h_5
 exact aK (ah (ag (rv Z Z (rn (aT (si h_6 ▸ rF))))))
def jK (fu : Nat) (a1 : aI) (c1 : aY) : Option Bool :=
 some (a1.Name == c1)
theorem tu {fu : Nat} {a1 : aI} {c1 : aY} {r : Bool} (h : jK fu a1 c1 = some r) : ai Tryz.prog 211 [.agg [.str (sB a1.Name), .bool a1.Text, .int .i64 a1.N, .str (sB a1.S)], .rd [.str (sB c1)]] (· = .bool r) := by
 rw [jK] at h
 refine cf Tryz.func211 ?_
 exact ag (rb Z Z (rv Z Z (rn (ag (rg 4 rfl (rt (jH a1.Name c1) (rv Z Z (rn (aT (si h ▸ rF))))))))))
def j6 (fu : Nat) (l1 : List aI) (name1 : aY) : Option (aI × Bool) :=
 (cz fu l1 (fun x0 => jK fu x0 name1)).bind fun i1 => bif (decide (i1 < 0)) then some ((aI.mk [] false 0 []), false) else ((gi l1 i1).bind fun x1 => some (x1, true))
theorem vN {fu : Nat} {l1 : List aI} {name1 : aY} {r : aI × Bool} (h : j6 fu l1 name1 = some r) : ai Tryz.prog 154 [.sl (l1.map au), .str (sB name1)] (· = .tup [.agg [.str (sB r.1.Name), .bool r.1.Text, .int .i64 r.1.N, .str (sB r.1.S)], .bool r.2]) := by
 rw [j6] at h
 refine cf Tryz.func154 ?_
 refine ag (rb Z Z (ra Z Z Z (rv Z Z (rn (ag (rg 2 rfl (bx h fun i1 hx1 h_1 => rf Z Z (gE ⟨rfl, fun _ => rfl⟩ (fun hq => tu hq) hx1) rfl (rv Z Z (rn (aS (ag (rg 2 rfl (rn (bw rfl h_1 (fun h_2 => ?_) fun h_2 => ?_))))))))))))))
 ·clear h h_1
  exact ag (rv Z Z (rs Z Z Z Z Z Z Z (rv Z Z (rn (aT (si h_2 ▸ rF))))))
 clear h h_1
 refine aK (ag (rg 2 rfl (bx h_2 fun x1 hx2 h_3 => ri Z Z Z Z Z Z (iF hx2) (kG au hx2) (wM (fun _ => by rfl) _) ?_)))
 exact rv Z Z (rs Z Z Z Z Z Z Z (rv Z Z (rn (aT (si h_3 ▸ rF)))))
def fC (fu : Nat) (a1 : aI) (v1 : aI) : Option Int :=
 bif a1.Text then ((gt fu a1.S v1.S).bind fun x1 => some x1) else ((ea fu a1.N v1.N).bind fun x2 => some x2)
theorem mu {fu : Nat} {a1 : aI} {v1 : aI} {r : Int} (h : fC fu a1 v1 = some r) : ai Tryz.prog 156 [.agg [.str (sB a1.Name), .bool a1.Text, .int .i64 a1.N, .str (sB a1.S)], .agg [.str (sB v1.Name), .bool v1.Text, .int .i64 v1.N, .str (sB v1.S)]] (· = .int .i64 r) := by
 rw [fC] at h
 refine cf Tryz.func156 ?_
 refine ag (rb Z Z (rb Z Z (rv Z Z (rn (aS (ag (rg 2 rfl (rn (bw rfl h (fun h_1 => ?_) fun h_1 => ?_)))))))))
 ·clear h
  exact ag (rg 4 rfl (bx h_1 fun x1 hx1 h_2 => bt Z Z Z (oO hx1) (rv Z Z (rn (aT (si h_2 ▸ rF))))))
 clear h
 exact aK (ag (rg 4 rfl (bx h_1 fun x2 hx2 h_2 => bt Z Z Z (mS hx2) (rv Z Z (rn (aT (si h_2 ▸ rF)))))))
def jM (fu : Nat) (v1 : aI) (c1 : aI) : Option Bool :=
 bif (c1.Text == v1.Text) then ((fC fu c1 v1).bind fun x1 => some (x1 == 0)) else some false
theorem sM {fu : Nat} {v1 : aI} {c1 : aI} {r : Bool} (h : jM fu v1 c1 = some r) : ai Tryz.prog 155 [.agg [.str (sB v1.Name), .bool v1.Text, .int .i64 v1.N, .str (sB v1.S)], .rd [.str (sB c1.Name), .bool c1.Text, .int .i64 c1.N, .str (sB c1.S)]] (· = .bool r) := by
 rw [jM] at h
 refine cf Tryz.func155 ?_
 refine ag (rb Z Z (rv Z Z (rn (ag (rg 6 rfl (dN Z Z Z Z Z h (fun h_1 => ?_) fun h_1 => ?_))))))
 ·clear h
  exact rg 2 rfl (gy Z Z Z (bx h_1 fun x1 hx1 h_2 => bt Z Z Z (mu hx1) (rg 3 rfl (rn (aT (si h_2 ▸ rF))))))
 clear h
 exact rg 5 rfl (rn (aT (si h_1 ▸ rF)))
def j0 (fu : Nat) (f1 : aa) (l2 : List aI) : Option Bool :=
 match f1 with | .mk kind1 name1 op1 vals1 l1 => (j6 fu l2 name1).bind fun is1 => (bif (!is1.2) then some true else some ((vals1.length : Int) == 0) : Option Bool).bind fun (x1 : Bool) => (bif x1 then some false else ((gi vals1 0).bind fun x2 => bif (kind1 == 4) then (bif (is1.1.Text == x2.Text) then ((fC fu is1.1 x2).bind fun x3 => (iq fu op1 x3).bind fun x4 => some x4) else some false) else (bif (kind1 == 5) then (bif is1.1.Text then (bif x2.Text then ((bW fu is1.1.S x2.S).bind fun x5 => some x5) else some false) else some false) else (bif (kind1 == 6) then ((bV fu vals1 (fun x0 => jM fu x0 is1.1)).bind fun x6 => some x6) else some false))))
theorem vV {fu : Nat} {f1 : aa} {l2 : List aI} {r : Bool} (h : j0 fu f1 l2 = some r) : ai Tryz.prog 104 [.agg (bd f1), .sl (l2.map au)] (· = .bool r) := by
 obtain ⟨kind1, name1, op1, vals1, l1⟩ := f1
 rw [j0] at h
 refine cf Tryz.func104 ?_
 refine ag (rb Z Z (rv Z Z (rn (ag (rg 3 rfl (bx h fun is1 hx1 h_1 => bt Z Z Z (vN hx1) (rg 3 rfl (ra Z Z Z (rs Z Z Z Z Z Z Z (rv Z Z (rn (aS (aS (bx h_1 fun o2 ho3 h_2 => aq (fun x => x = o2) (fun (x1 : Bool) => ⟨[(2, .ptr 0 0), (5, .ptr 1 0), (23, .bool x1)], [(0, 0, .int .i64 kind1), (0, 1, .str (sB name1)), (0, 2, .str (sB op1)), (0, 3, .sl (vals1.map au)), (0, 4, .sl (am l1)), (1, 0, .str (sB is1.1.Name)), (1, 1, .bool is1.1.Text), (1, 2, .int .i64 is1.1.N), (1, 3, .str (sB is1.1.S))], [], 2⟩) ?_ ?_))))))))))))))
 ·clear h h_1
  refine aR (rg 3 rfl (eN Z Z Z Z Z ho3 (fun ho3_1 => ?_) fun ho3_1 => ?_))
  ·clear ho3
   exact rg 3 rfl (rt ((lM au vals1)) (rg 2 rfl (rn (si ho3_1 ▸ cN [0,1]))))
  clear ho3
  exact rg 4 rfl (rn (si ho3_1 ▸ cN [0,1]))
 clear h h_1
 rintro x1 rfl
 refine ch (bw rfl h_2 (fun h_3 => ?_) fun h_3 => ?_)
 ·clear h_2
  exact ag (rv Z Z (rn (aT (si h_3 ▸ rF))))
 clear h_2
 refine aK (ag (rg 2 rfl (bx h_3 fun x2 hx4 h_4 => ri Z Z Z Z Z Z (iF hx4) (kG au hx4) (wM (fun _ => by rfl) _) ?_)))
 refine rv Z Z (ra Z Z Z (rs Z Z Z Z Z Z Z (rn (ag (rg 2 rfl (rn (aS (ag (rg 2 rfl (rn (aB (ag (rg 2 rfl (rn (bw rfl h_4 (fun h_5 => ?_) fun h_5 => ?_)))))))))))))))
 ·clear h_3 h_4
  refine aS (mw 13 Tryz.mix (dv Z Z (fun _ => rfl) (dv Z Z (fun _ => rfl) (dv Z Z (fun _ => rfl) (dv Z Z (fun _ => rfl) (dv Z Z (fun _ => rfl) (dv Z Z (fun _ => rfl) (Ai Z Z h_5 (fun h_6 => ?_) fun h_6 => ?_))))))))
  ·clear h_5
   exact dv Z Z (fun _ => rfl) (dv Z Z (fun _ => rfl) (dv Z Z (fun _ => rfl) (dv Z Z (fun _ => rfl) (bx h_6 fun x3 hx5 h_7 => dc Z Z Z Z (fun _ => rfl) (fun _ => (mu hx5)) (bx h_7 fun x4 hx6 h_8 => dc Z Z Z Z (fun _ => rfl) (fun _ => (tf hx6)) (dv Z Z (fun _ => rfl) (dn (rv Z Z (rn (aT (si h_8 ▸ rF)))))))))))
  clear h_5
  exact bB Z Z (bB Z Z (bB Z Z (bB Z Z (bB Z Z (bB Z Z (dv Z Z (fun _ => rfl) (dn (rv Z Z (rn (aT (si h_6 ▸ rF)))))))))))
 clear h_3 h_4
 refine ag (rg 2 rfl (rn (bw rfl h_5 (fun h_6 => ?_) fun h_6 => ?_)))
 ·clear h_5
  refine ag (rg 3 rfl (dN Z Z Z Z Z h_6 (fun h_7 => ?_) fun h_7 => ?_))
  ·clear h_6
   refine rg 4 rfl (dN Z Z Z Z Z h_7 (fun h_8 => ?_) fun h_8 => ?_)
   ·clear h_7
    exact rg 4 rfl (gy Z Z Z (bx h_8 fun x5 hx7 h_9 => bt Z Z Z (js hx7) (rg 2 rfl (rn (aT (si h_9 ▸ rF))))))
   clear h_7
   exact rg 6 rfl (rn (aT (si h_8 ▸ rF)))
  clear h_6
  exact rg 10 rfl (rn (aT (si h_7 ▸ rF)))
 clear h_5
 refine ag (rg 2 rfl (rn (bw rfl h_6 (fun h_7 => ?_) fun h_7 => ?_)))
 ·clear h_6
  exact ag (rg 3 rfl (bx h_7 fun x6 hx8 h_8 => rf Z Z (fL ⟨rfl, fun _ => rfl⟩ (fun hq => sM hq) hx8) rfl (rv Z Z (rn (aT (si h_8 ▸ rF))))))
 clear h_6
 exact aK (ah (ag (rv Z Z (rn (aT (si h_7 ▸ rF))))))
mutual
def dE : Nat → aa → (List aI) → Option Bool
 | 0, _, _ => none
 | fu + 1, f1, l2 => match f1 with | .mk kind1 name1 op1 vals1 l1 => bif (kind1 == 7) then some true else (bif (kind1 == 3) then ((bif (decide ((l1.length : Int) > 0)) then ((gi l1 0).bind fun x2 => match x2 with | .mk kind2 name2 op2 vals2 l3 => (eJ fu (aa.mk kind2 name2 op2 vals2 l3) l2).bind fun x3 => some x3) else some false : Option Bool).bind fun (x1 : Bool) => some x1) else (bif (kind1 == 1) then ((bv fu l1 (fun x0 => eJ fu x0 l2)).bind fun x4 => some (!x4)) else (bif (kind1 == 2) then ((bv fu l1 (fun x0 => fE fu x0 l2)).bind fun x5 => some x5) else ((j0 fu (aa.mk kind1 name1 op1 vals1 l1) l2).bind fun x6 => some x6))))
def fE : Nat → aa → (List aI) → Option Bool
 | 0, _, _ => none
 | fu + 1, x1, c1 => match x1 with | .mk kind1 name1 op1 vals1 l1 => (dE fu (aa.mk kind1 name1 op1 vals1 l1) c1).bind fun x2 => some x2
def eJ : Nat → aa → (List aI) → Option Bool
 | 0, _, _ => none
 | fu + 1, x1, c1 => match x1 with | .mk kind1 name1 op1 vals1 l1 => (dE fu (aa.mk kind1 name1 op1 vals1 l1) c1).bind fun x2 => some (!x2)
end
abbrev fw (fu : Nat) : Prop := ∀ {f1 l2} {r : Bool}, dE fu f1 l2 = some r → ai Tryz.prog 62 [.agg (bd f1), .sl (l2.map au)] (· = .bool r)
abbrev fm (fu : Nat) : Prop := ∀ {x1 c1} {r : Bool}, fE fu x1 c1 = some r → ai Tryz.prog 101 [.agg (bd x1), .rd [.sl (c1.map au)]] (· = .bool r)
abbrev fj (fu : Nat) : Prop := ∀ {x1 c1} {r : Bool}, eJ fu x1 c1 = some r → ai Tryz.prog 102 [.agg (bd x1), .rd [.sl (c1.map au)]] (· = .bool r)
theorem uE {fu : Nat} (ih_deval_Holds : fw fu) (ih_deval_Holds_1 : fm fu) (ih_deval_Holds_2 : fj fu) : fw (fu + 1) := by
 intro f1 l2 r h
 obtain ⟨kind1, name1, op1, vals1, l1⟩ := f1
 rw [dE] at h
 refine cf Tryz.func62 ?_
 refine ag (rb Z Z (rb Z Z (rv Z Z (rn (ag (rg 2 rfl (rn (ag (rg 2 rfl (rn (aS (ag (rg 2 rfl (rn (aB (ag (rg 2 rfl (rn (bw rfl h (fun h_1 => ?_) fun h_1 => ?_)))))))))))))))))))
 ·clear h
  exact ag (rv Z Z (rn (aT (si h_1 ▸ rF))))
 clear h
 refine ag (rg 2 rfl (rn (bw rfl h_1 (fun h_2 => ?_) fun h_2 => ?_)))
 ·clear h_1
  refine aS (bx h_2 fun o1 ho2 h_3 => aq (fun x => x = o1) (fun (x1 : Bool) => ⟨[(4, .bool x1)], [], [], 0⟩) ?_ ?_)
  ·clear h_2
   refine aR (rg 3 rfl (rt ((cp l1)) (rg 2 rfl (dN Z Z Z Z Z ho2 (fun ho2_1 => ?_) fun ho2_1 => ?_))))
   ·clear ho2
    refine rg 3 rfl (gy Z Z Z (bx ho2_1 fun x2 hx3 ho2_2 => ri Z Z Z Z Z Z (iF hx3) (dB hx3) (bK _) ?_))
    obtain ⟨kind2, name2, op2, vals2, l3⟩ := x2
    exact rg 1 rfl (gy Z Z Z (bx ho2_2 fun x3 hx4 ho2_3 => rf Z Z (ih_deval_Holds_2 hx4) rfl (rg 2 rfl (rn (si ho2_3 ▸ cN [])))))
   clear ho2
   exact rg 7 rfl (rn (si ho2_1 ▸ cN []))
  clear h_2
  rintro x1 rfl
  exact ch (aT (si h_3 ▸ rF))
 clear h_1
 refine ag (rg 2 rfl (rn (bw rfl h_2 (fun h_3 => ?_) fun h_3 => ?_)))
 ·clear h_2
  exact ag (rg 3 rfl (bx h_3 fun x4 hx5 h_4 => rf Z Z (cC ⟨rfl, fun _ => rfl⟩ (fun hq => ih_deval_Holds_2 hq) hx5) rfl (rg 2 rfl (rn (aT (si h_4 ▸ rF))))))
 clear h_2
 refine ag (rg 2 rfl (rn (bw rfl h_3 (fun h_4 => ?_) fun h_4 => ?_)))
 ·clear h_3
  exact ag (rg 3 rfl (bx h_4 fun x5 hx6 h_5 => rf Z Z (cC ⟨rfl, fun _ => rfl⟩ (fun hq => ih_deval_Holds_1 hq) hx6) rfl (rv Z Z (rn (aT (si h_5 ▸ rF))))))
 clear h_3
 exact aK (ah (ag (rg 2 rfl (bx h_4 fun x6 hx7 h_5 => bt Z Z Z (vV hx7) (rv Z Z (rn (aT (si h_5 ▸ rF))))))))
theorem rx {fu : Nat} (ih_deval_Holds : fw fu) (ih_deval_Holds_1 : fm fu) (ih_deval_Holds_2 : fj fu) : fm (fu + 1) := by
 intro x1 c1 r h
 obtain ⟨kind1, name1, op1, vals1, l1⟩ := x1
 rw [fE] at h
 refine cf Tryz.func101 ?_
 exact ag (rb Z Z (rv Z Z (rn (ag (rg 2 rfl (bx h fun x2 hx1 h_1 => bt Z Z Z (ih_deval_Holds hx1) (rv Z Z (rn (aT (si h_1 ▸ rF))))))))))
theorem ro {fu : Nat} (ih_deval_Holds : fw fu) (ih_deval_Holds_1 : fm fu) (ih_deval_Holds_2 : fj fu) : fj (fu + 1) := by
 intro x1 c1 r h
 obtain ⟨kind1, name1, op1, vals1, l1⟩ := x1
 rw [eJ] at h
 refine cf Tryz.func102 ?_
 exact ag (rb Z Z (rv Z Z (rn (ag (rg 2 rfl (bx h fun x2 hx1 h_1 => bt Z Z Z (ih_deval_Holds hx1) (rg 2 rfl (rn (aT (si h_1 ▸ rF))))))))))
end
theorem mC : ∀ fu : Nat, fw fu ∧ fm fu ∧ fj fu
 | 0 => ⟨fun h => by simp [dE] at h, fun h => by simp [fE] at h, fun h => by simp [eJ] at h⟩
 | fu + 1 => by
  obtain ⟨i0, i1, i2⟩ := mC fu
  exact ⟨uE i0 i1 i2, rx i0 i1 i2, ro i0 i1 i2⟩
theorem ur {fu : Nat} : fw fu := (mC fu).1
def Di (n : Int) : Bool := decide (n < -1073741824) || decide (n > 1073741824)
def cA (x y : Int) : Bool := !Di x && !Di y
def eL (a b c d : Int) : Bool := cA a b && cA c d && decide (a ≤ c) && decide (b ≤ d)
def mn (x y : Int) : Int := if y < x then y else x
def mx (x y : Int) : Int := if y > x then y else x
def inR (a b c d x y : Int) : Bool := decide (a ≤ x) && decide (x ≤ c) && decide (b ≤ y) && decide (y ≤ d)
def cP (a b c d a' b' c' d' : Int) : Bool := decide (a ≤ a') && decide (c' ≤ c) && decide (b ≤ b') && decide (d' ≤ d)
def mt (p : Bool) (x : Int) : Int := if p then x else 0
def Jd (a b c d : Int) : Prop := Bd a ∧ Bd b ∧ Bd c ∧ Bd d
theorem ec {x y : Int} : cA x y = true ↔ Bd x ∧ Bd y := by
 simp only [cA, Di, Bd, Bool.and_eq_true, Bool.not_eq_true', Bool.or_eq_false_iff, decide_eq_false_iff_not]; omega
theorem Du {a b c d : Int} : eL a b c d = true ↔ Jd a b c d ∧ a ≤ c ∧ b ≤ d := by
 simp only [eL, Bool.and_eq_true, ec, decide_eq_true_eq, Jd, and_assoc]
theorem sP (x y : Int) : mn x y = min x y := by unfold mn; omega
theorem sT (x y : Int) : mx x y = max x y := by unfold mx; omega
section
attribute [local irreducible] cg aM DP ai aP Decidable.decide
theorem CI {n : Int} : ai Tryz.prog 150 [.int .i64 n] (· = .bool (Di n)) := by
 refine cf Tryz.func150 ?_
 refine ag (rv Z Z (rn (ag (rg 3 rfl ?_))))
 (iterate 2 all_goals (first | refine d6 (rv Z Z ?_) | refine d7 ?_ | refine d8 ?_ | refine gs Z Z Z Z Z (fun hg => rv Z Z ?_) fun hg => ?_)) <;> (
 refine rg 2 rfl (rn (aT ?_))
 repeat (first | refine an ?_ | refine ac ?_)
 refine rr Z Z ?_
 first | rfl | (simp [*]; done) | (simp [Di]; done) | (simp [Di, *]; done) | (simp_all [Di]; done))
end
section
attribute [local irreducible] cg aM DP ai aP Decidable.decide
theorem jz {x y : Int} : ai Tryz.prog 99 [.agg [.int .i64 x, .int .i64 y]] (· = .bool (cA x y)) := by
 refine cf Tryz.func99 ?_
 refine ag (rb Z Z (rv Z Z (rn (ag (rg 2 rfl (bt Z Z Z (CI) (rg 2 rfl ?_)))))))
 (iterate 2 all_goals (first | refine d6 (rv Z Z ?_) | refine d7 ?_ | refine d8 ?_ | refine gs Z Z Z Z Z (fun hg => rv Z Z ?_) fun hg => ?_)) <;> (
 (first | refine d6 (bt Z Z Z (CI) (?_)) | refine d7 ?_ | refine d8 ?_ | refine gs Z Z Z Z Z (fun hg => bt Z Z Z (CI) (?_)) fun hg => ?_) <;> (
 ((first | refine d6 (rv Z Z ?_) | refine d7 ?_ | refine d8 ?_ | refine gs Z Z Z Z Z (fun hg => rv Z Z ?_) fun hg => ?_)) <;> (
 refine rg 2 rfl (rn (aT ?_))
 repeat (first | refine an ?_ | refine ac ?_)
 refine rr Z Z ?_
 first | rfl | (simp [*]; done) | (simp [cA]; done) | (simp [cA, *]; done) | (simp_all [cA]; done))))
end
section
attribute [local irreducible] cg aM DP ai aP Decidable.decide
theorem De {a b c d : Int} : ai Tryz.prog 75 [.agg [.int .i64 a, .int .i64 b, .int .i64 c, .int .i64 d]] (· = .bool (eL a b c d)) := by
 refine cf Tryz.func75 ?_
 refine ag (rb Z Z (rv Z Z (rn (ag (rg 5 rfl (bt Z Z Z (jz) (rv Z Z ?_)))))))
 (iterate 5 all_goals (first | refine d6 (rv Z Z ?_) | refine d7 ?_ | refine d8 ?_ | refine gs Z Z Z Z Z (fun hg => rv Z Z ?_) fun hg => ?_)) <;> (
 (first | refine d6 (bt Z Z Z (jz) (?_)) | refine d7 ?_ | refine d8 ?_ | refine gs Z Z Z Z Z (fun hg => bt Z Z Z (jz) (?_)) fun hg => ?_) <;> (
 refine rg 2 rfl ?_
 (iterate 5 all_goals (first | refine d6 (rv Z Z ?_) | refine d7 ?_ | refine d8 ?_ | refine gs Z Z Z Z Z (fun hg => rv Z Z ?_) fun hg => ?_)) <;> (
 refine rg 2 rfl ?_
 (iterate 5 all_goals (first | refine d6 (rv Z Z ?_) | refine d7 ?_ | refine d8 ?_ | refine gs Z Z Z Z Z (fun hg => rv Z Z ?_) fun hg => ?_)) <;> (
 refine rg 2 rfl (rn (aT ?_))
 repeat (first | refine an ?_ | refine ac ?_)
 refine rr Z Z ?_
 first | rfl | (simp [*]; done) | (simp [eL]; done) | (simp [eL, *]; done) | (simp_all [eL]; done)))))
end
section
attribute [local irreducible] cg aM DP ai aP Decidable.decide
theorem DB {a b c d x y : Int} : ai Tryz.prog 89 [.agg [.int .i64 a, .int .i64 b, .int .i64 c, .int .i64 d], .agg [.int .i64 x, .int .i64 y]] (· = .bool (inR a b c d x y)) := by
 refine cf Tryz.func89 ?_
 refine ag (rb Z Z (rb Z Z (rv Z Z (rn (ag (rg 6 rfl ?_))))))
 (iterate 5 all_goals (first | refine d6 (rv Z Z ?_) | refine d7 ?_ | refine d8 ?_ | refine gs Z Z Z Z Z (fun hg => rv Z Z ?_) fun hg => ?_)) <;> (
 refine rg 2 rfl ?_
 (iterate 5 all_goals (first | refine d6 (rv Z Z ?_) | refine d7 ?_ | refine d8 ?_ | refine gs Z Z Z Z Z (fun hg => rv Z Z ?_) fun hg => ?_)) <;> (
 refine rg 2 rfl ?_
 (iterate 5 all_goals (first | refine d6 (rv Z Z ?_) | refine d7 ?_ | refine d8 ?_ | refine gs Z Z Z Z Z (fun hg => rv Z Z ?_) fun hg => ?_)) <;> (
 refine rg 2 rfl (rn (aT ?_))
 repeat (first | refine an ?_ | refine ac ?_)
 refine rr Z Z ?_
 first | rfl | (simp [*]; done) | (simp [inR]; done) | (simp [inR, *]; done) | (simp_all [inR]; done))))
end
section
attribute [local irreducible] cg aM DP ai aP Decidable.decide
theorem Eb {a b c d a' b' c' d' : Int} : ai Tryz.prog 136 [.agg [.int .i64 a, .int .i64 b, .int .i64 c, .int .i64 d], .agg [.int .i64 a', .int .i64 b', .int .i64 c', .int .i64 d']] (· = .bool (cP a b c d a' b' c' d')) := by
 refine cf Tryz.func136 ?_
 refine ag (rb Z Z (rb Z Z (rv Z Z (rn (ag (rg 6 rfl ?_))))))
 (iterate 5 all_goals (first | refine d6 (rv Z Z ?_) | refine d7 ?_ | refine d8 ?_ | refine gs Z Z Z Z Z (fun hg => rv Z Z ?_) fun hg => ?_)) <;> (
 refine rg 2 rfl ?_
 (iterate 5 all_goals (first | refine d6 (rv Z Z ?_) | refine d7 ?_ | refine d8 ?_ | refine gs Z Z Z Z Z (fun hg => rv Z Z ?_) fun hg => ?_)) <;> (
 refine rg 2 rfl ?_
 (iterate 5 all_goals (first | refine d6 (rv Z Z ?_) | refine d7 ?_ | refine d8 ?_ | refine gs Z Z Z Z Z (fun hg => rv Z Z ?_) fun hg => ?_)) <;> (
 refine rg 2 rfl (rn (aT ?_))
 repeat (first | refine an ?_ | refine ac ?_)
 refine rr Z Z ?_
 first | rfl | (simp [*]; done) | (simp [cP]; done) | (simp [cP, *]; done) | (simp_all [cP]; done))))
end
section
attribute [local irreducible] cg aM DP ai aP Decidable.decide
theorem Aq {a b c d a' b' c' d' : Int} : ai Tryz.prog 131 [.agg [.int .i64 a, .int .i64 b, .int .i64 c, .int .i64 d], .agg [.int .i64 a', .int .i64 b', .int .i64 c', .int .i64 d']] (· = .agg [.int .i64 (mn a a'), .int .i64 (mn b b'), .int .i64 (mx c c'), .int .i64 (mx d d')]) := by
 refine cf Tryz.func131 ?_
 refine ag (rb Z Z (rb Z Z (ra Z Z Z (rn (ag (rg 21 rfl (rs Z Z Z Z Z Z Z (rn (aT ?_)))))))))
 repeat (first | refine an ?_ | refine ac ?_)
 refine rr Z Z ?_
 first | rfl | (simp [*]; done) | (simp []; done) | (simp [*]; done) | (simp_all []; done)
end
def Ey (x y : Int) : Int := W (0 - mn (W (0 - y)) (W (0 - x)))
theorem qc {x y : Int} (hx : Bd x) (hy : Bd y) : Ey x y = mx x y := by
 unfold Ey
 rw [Dd hy, Dd hx, Dd (by unfold mn Bd at *; split <;> omega)]
 unfold mn mx
 split <;> split <;> omega
section
attribute [local irreducible] cg aM DP ai aP Decidable.decide
theorem CR {n : Int} : ai Tryz.prog 114 [.int .i64 n] (· = .bool (Di n)) := by
 refine cf Tryz.func114 ?_
 refine ag (rv Z Z (rn (ag (rg 3 rfl ?_))))
 (iterate 2 all_goals (first | refine d6 (rv Z Z ?_) | refine d7 ?_ | refine d8 ?_ | refine gs Z Z Z Z Z (fun hg => rv Z Z ?_) fun hg => ?_)) <;> (
 refine rg 2 rfl (rn (aT ?_))
 repeat (first | refine an ?_ | refine ac ?_)
 refine rr Z Z ?_
 first | rfl | (simp [*]; done) | (simp [Di]; done) | (simp [Di, *]; done) | (simp_all [Di]; done))
end
section
attribute [local irreducible] cg aM DP ai aP Decidable.decide
theorem kR {x y : Int} : ai Tryz.prog 72 [.agg [.int .i64 x, .int .i64 y]] (· = .bool (cA x y)) := by
 refine cf Tryz.func72 ?_
 refine ag (rb Z Z (rv Z Z (rn (ag (rg 2 rfl (bt Z Z Z (CR) (rv Z Z (rn (ag (rg 2 rfl (bt Z Z Z (CR) (rv Z Z (rn (ag (rg 3 rfl ?_)))))))))))))))
 (iterate 2 all_goals (first | refine d6 (rv Z Z ?_) | refine d7 ?_ | refine d8 ?_ | refine gs Z Z Z Z Z (fun hg => rv Z Z ?_) fun hg => ?_)) <;> (
 refine rg 2 rfl (rn (aT ?_))
 repeat (first | refine an ?_ | refine ac ?_)
 refine rr Z Z ?_
 first | rfl | (simp [*]; done) | (simp [cA]; done) | (simp [cA, *]; done) | (simp_all [cA]; done))
end
section
attribute [local irreducible] cg aM DP ai aP Decidable.decide
theorem A4 {a b c d : Int} : ai Tryz.prog 91 [.agg [.int .i64 a, .int .i64 b, .int .i64 c, .int .i64 d]] (· = .bool (eL a b c d)) := by
 refine cf Tryz.func91 ?_
 refine ag (rb Z Z (rv Z Z (rn (ag (rg 5 rfl (bt Z Z Z (kR) (rv Z Z (rn (ag (rg 5 rfl (bt Z Z Z (kR) (rv Z Z (rn (ag (rg 2 rfl ?_)))))))))))))))
 ((first | refine d6 (rv Z Z ?_) | refine d7 ?_ | refine d8 ?_ | refine gs Z Z Z Z Z (fun hg => rv Z Z ?_) fun hg => ?_)) <;> (
 refine rg 2 rfl ?_
 (iterate 5 all_goals (first | refine d6 (rv Z Z ?_) | refine d7 ?_ | refine d8 ?_ | refine gs Z Z Z Z Z (fun hg => rv Z Z ?_) fun hg => ?_)) <;> (
 refine rg 2 rfl ?_
 (iterate 5 all_goals (first | refine d6 (rv Z Z ?_) | refine d7 ?_ | refine d8 ?_ | refine gs Z Z Z Z Z (fun hg => rv Z Z ?_) fun hg => ?_)) <;> (
 refine rg 2 rfl (rn (aT ?_))
 repeat (first | refine an ?_ | refine ac ?_)
 refine rr Z Z ?_
 first | (simp [eL, *]; done) | (simp_all [eL]; done))))
end
section
attribute [local irreducible] cg aM DP ai aP Decidable.decide
theorem yg {a b c d x y : Int} : ai Tryz.prog 51 [.agg [.int .i64 a, .int .i64 b, .int .i64 c, .int .i64 d], .agg [.int .i64 x, .int .i64 y]] (· = .bool (inR a b c d x y)) := by
 refine cf Tryz.func51 ?_
 refine ag (rb Z Z (rb Z Z (rv Z Z (rn (ag (rg 6 rfl ?_))))))
 (iterate 5 all_goals (first | refine d6 (rv Z Z ?_) | refine d7 ?_ | refine d8 ?_ | refine gs Z Z Z Z Z (fun hg => rv Z Z ?_) fun hg => ?_)) <;> (
 refine rg 2 rfl ?_
 (iterate 5 all_goals (first | refine d6 (rv Z Z ?_) | refine d7 ?_ | refine d8 ?_ | refine gs Z Z Z Z Z (fun hg => rv Z Z ?_) fun hg => ?_)) <;> (
 refine rg 2 rfl ?_
 (iterate 5 all_goals (first | refine d6 (rv Z Z ?_) | refine d7 ?_ | refine d8 ?_ | refine gs Z Z Z Z Z (fun hg => rv Z Z ?_) fun hg => ?_)) <;> (
 refine rg 2 rfl (rn (aT ?_))
 repeat (first | refine an ?_ | refine ac ?_)
 refine rr Z Z ?_
 first | rfl | (simp [*]; done) | (simp [inR]; done) | (simp [inR, *]; done) | (simp_all [inR]; done))))
end
section
attribute [local irreducible] cg aM DP ai aP Decidable.decide
theorem C6 {a b c d a' b' c' d' : Int} : ai Tryz.prog 13 [.agg [.int .i64 a, .int .i64 b, .int .i64 c, .int .i64 d], .agg [.int .i64 a', .int .i64 b', .int .i64 c', .int .i64 d']] (· = .bool (inR a b c d a' b' && inR a b c d c' d')) := by
 refine cf Tryz.func13 ?_
 refine ag (rb Z Z (rb Z Z (rv Z Z (rn (ag (rg 6 rfl (bt Z Z Z (yg) (rv Z Z (rn (ag (rg 6 rfl (bt Z Z Z (yg) (rv Z Z (rn (ag (rg 2 rfl ?_))))))))))))))))
 ((first | refine d6 (rv Z Z ?_) | refine d7 ?_ | refine d8 ?_ | refine gs Z Z Z Z Z (fun hg => rv Z Z ?_) fun hg => ?_)) <;> (
 refine rg 2 rfl (rn (aT ?_))
 repeat (first | refine an ?_ | refine ac ?_)
 refine rr Z Z ?_
 first | rfl | (simp [*]; done) | (simp [inR]; done) | (simp [inR, *]; done) | (simp_all [inR]; done))
end
section
attribute [local irreducible] cg aM DP ai aP Decidable.decide
theorem pQ {x y : Int} : ai Tryz.prog 137 [.int .i64 x, .int .i64 y] (· = .int .i64 (mn y x)) := by
 refine cf Tryz.func137 ?_
 refine ag (rv Z Z (rn (aS (ag (rg 3 rfl (rn (ak ?_)))))))
 refine fB rfl (fun hc => ?_) (fun hc => ?_)
 ·
  first
  | (cases hc; done)
  | (
   refine ag (rg 2 rfl (rn (aT ?_)))
   repeat (first | refine an ?_ | refine ac ?_)
   refine rr Z Z ?_
   (simp only [decide_eq_true_eq, decide_eq_false_iff_not, AV.int.injEq, true_and] at *; unfold mn; split <;> omega))
 ·
  first
  | (cases hc; done)
  | (
   refine aK (ag (rg 2 rfl (rn (aT ?_))))
   repeat (first | refine an ?_ | refine ac ?_)
   refine rr Z Z ?_
   (simp only [decide_eq_true_eq, decide_eq_false_iff_not, AV.int.injEq, true_and] at *; unfold mn; split <;> omega))
end
def sg (x y : Int) : Int := if x < y then -1 else if y < x then 1 else 0
def dH (a b c d x y : Int) : Int := sg (W (W (c - a) * W (y - b))) (W (W (d - b) * W (x - a)))
def yU (x y n : Int) : Bool := decide (mn x y ≤ n) && decide (n ≤ mx x y)
def om (a b c d x y : Int) : Bool := decide (dH a b c d x y = 0) && yU a c x && yU b d y
def jC (a b c d x y x' y' : Int) : Bool := decide (W (dH a b c d x y * dH a b c d x' y') < 0) && decide (W (dH x y x' y' a b * dH x y x' y' c d) < 0)
def fO (a b c d x y x' y' : Int) : Bool := om a b c d x y || om a b c d x' y' || om x y x' y' a b || om x y x' y' c d || jC a b c d x y x' y'
def du (a b c d : Int) : Bool := cA a b && cA c d && cA (W (a + c)) (W (b + d))
def Ib (p : Bool) (x y : Int) : AV := match p with
 | true => .tup [.agg [.int .i64 x, .int .i64 y], .nilI]
 | false => .tup [.agg [.int .i64 0, .int .i64 0], .iface 55 (.int .i64 11)]
section
attribute [local irreducible] cg aM DP ai aP Decidable.decide
theorem AL {x : Int} : ai Tryz.prog 239 [.int .i64 x] (· = .bool (false)) := by
 refine cf Tryz.func239 ?_
 refine ag (rv Z Z (rn (ag (rg 4 rfl (rn (aT ?_))))))
 repeat (first | refine an ?_ | refine ac ?_)
 refine rr Z Z ?_
 first | rfl | (simp [*]; done) | (simp []; done) | (simp [*]; done) | (simp_all []; done)
end
section
attribute [local irreducible] cg aM DP ai aP Decidable.decide
theorem IV {x y : Int} : ai Tryz.prog 209 [.int .i64 x, .int .i64 y] (· = .int .i64 (sg x y)) := by
 refine cf Tryz.func209 ?_
 refine ag (rv Z Z (rn (ag (rv Z Z (bt Z Z Z (AL) (rv Z Z (rn (ag (rv Z Z (bt Z Z Z (AL) (rv Z Z (rn (aS (ag (rv Z Z (rn (ak ?_)))))))))))))))))
 refine fB rfl (fun hc => ?_) (fun hc => ?_)
 ·
  first
  | (cases hc; done)
  | (
   refine aS (ag (rv Z Z (rn (ak ?_))))
   refine fB rfl (fun hc => ?_) (fun hc => ?_)
   ·
    first
    | (cases hc; done)
    | (
     refine ag (rv Z Z (rn (aT ?_)))
     repeat (first | refine an ?_ | refine ac ?_)
     refine rr Z Z ?_
     (simp only [decide_eq_true_eq, decide_eq_false_iff_not, AV.int.injEq, true_and] at *; simp [sg, *]))
   ·
    first
    | (cases hc; done)
    | (
     refine aK (ag (rv Z Z (rn (aT ?_))))
     repeat (first | refine an ?_ | refine ac ?_)
     refine rr Z Z ?_
     (simp only [decide_eq_true_eq, decide_eq_false_iff_not, AV.int.injEq, true_and] at *; simp [sg, *])))
 ·
  first
  | (cases hc; done)
  | (
   refine aK (aS (ag (rv Z Z (rn (ak ?_)))))
   refine fB rfl (fun hc => ?_) (fun hc => ?_)
   ·
    first
    | (cases hc; done)
    | (
     refine ag (rv Z Z (rn (aT ?_)))
     repeat (first | refine an ?_ | refine ac ?_)
     refine rr Z Z ?_
     (simp only [decide_eq_true_eq, decide_eq_false_iff_not, AV.int.injEq, true_and] at *; simp [sg, *]))
   ·
    first
    | (cases hc; done)
    | (
     refine aK (aS (ag (rg 3 rfl (rn (ak ?_)))))
     refine fB rfl (fun hc => ?_) (fun hc => ?_)
     ·
      first
      | (cases hc; done)
      | (
       refine ag (rv Z Z (rn (aT ?_)))
       repeat (first | refine an ?_ | refine ac ?_)
       refine rr Z Z ?_
       (simp only [decide_eq_true_eq, decide_eq_false_iff_not, AV.int.injEq, true_and] at *; simp [sg, *]))
     ·
      first
      | (cases hc; done)
      | (
       refine aK (aS (ag (rg 3 rfl (rn (ak ?_)))))
       refine fB rfl (fun hc => ?_) (fun hc => ?_)
       ·
        first
        | (cases hc; done)
        | (
         refine ag (rv Z Z (rn (aT ?_)))
         repeat (first | refine an ?_ | refine ac ?_)
         refine rr Z Z ?_
         (simp only [decide_eq_true_eq, decide_eq_false_iff_not, AV.int.injEq, true_and] at *; simp [sg, *]))
       ·
        first
        | (cases hc; done)
        | (
         refine aK (ag (rv Z Z (rn (aT ?_))))
         repeat (first | refine an ?_ | refine ac ?_)
         refine rr Z Z ?_
         (simp only [decide_eq_true_eq, decide_eq_false_iff_not, AV.int.injEq, true_and] at *; simp [sg, *])))))
end
section
attribute [local irreducible] cg aM DP ai aP Decidable.decide
theorem nu {a b c d x y : Int} : ai Tryz.prog 152 [.agg [.int .i64 a, .int .i64 b], .agg [.int .i64 c, .int .i64 d], .agg [.int .i64 x, .int .i64 y]] (· = .int .i64 (dH a b c d x y)) := by
 refine cf Tryz.func152 ?_
 refine ag (rb Z Z (rb Z Z (rb Z Z (rv Z Z (rn (ag (rg 22 rfl (bt Z Z Z (IV) (rv Z Z (rn (aT ?_)))))))))))
 repeat (first | refine an ?_ | refine ac ?_)
 refine rr Z Z ?_
 first | rfl | (simp [*]; done) | (simp []; done) | (simp [*]; done) | (simp_all []; done)
end
section
attribute [local irreducible] cg aM DP ai aP Decidable.decide
theorem Bm {x y n : Int} : ai Tryz.prog 208 [.int .i64 x, .int .i64 y, .int .i64 n] (· = .bool (yU x y n)) := by
 refine cf Tryz.func208 ?_
 refine ag (rv Z Z (rn (ag (rg 6 rfl ?_))))
 (iterate 5 all_goals (first | refine d6 (rv Z Z ?_) | refine d7 ?_ | refine d8 ?_ | refine gs Z Z Z Z Z (fun hg => rv Z Z ?_) fun hg => ?_)) <;> (
 refine rg 2 rfl (rn (aT ?_))
 repeat (first | refine an ?_ | refine ac ?_)
 refine rr Z Z ?_
 (unfold yU mn mx; rw [hg]; rfl))
end
section
attribute [local irreducible] cg aM DP ai aP Decidable.decide
theorem tS {a b c d x y : Int} : ai Tryz.prog 151 [.agg [.int .i64 a, .int .i64 b], .agg [.int .i64 c, .int .i64 d], .agg [.int .i64 x, .int .i64 y]] (· = .bool (om a b c d x y)) := by
 refine cf Tryz.func151 ?_
 refine ag (rb Z Z (rb Z Z (rb Z Z (rv Z Z (rn (ag (rg 3 rfl (bt Z Z Z (nu) (rg 2 rfl ?_)))))))))
 (iterate 6 all_goals (first | refine d6 (rv Z Z ?_) | refine d7 ?_ | refine d8 ?_ | refine gs Z Z Z Z Z (fun hg => rv Z Z ?_) fun hg => ?_)) <;> (
 (first | refine d6 (bt Z Z Z (Bm) (?_)) | refine d7 ?_ | refine d8 ?_ | refine gs Z Z Z Z Z (fun hg => bt Z Z Z (Bm) (?_)) fun hg => ?_) <;> (
 refine rg 2 rfl ?_
 (iterate 6 all_goals (first | refine d6 (rv Z Z ?_) | refine d7 ?_ | refine d8 ?_ | refine gs Z Z Z Z Z (fun hg => rv Z Z ?_) fun hg => ?_)) <;> (
 (first | refine d6 (bt Z Z Z (Bm) (?_)) | refine d7 ?_ | refine d8 ?_ | refine gs Z Z Z Z Z (fun hg => bt Z Z Z (Bm) (?_)) fun hg => ?_) <;> (
 refine rg 2 rfl (rn (aT ?_))
 repeat (first | refine an ?_ | refine ac ?_)
 refine rr Z Z ?_
 first | rfl | (simp [*]; done) | (simp [om]; done) | (simp [om, *]; done) | (simp_all [om]; done)))))
end
section
attribute [local irreducible] cg aM DP ai aP Decidable.decide
theorem AJ {a b c d x y x' y' : Int} : ai Tryz.prog 122 [.agg [.int .i64 a, .int .i64 b], .agg [.int .i64 c, .int .i64 d], .agg [.int .i64 x, .int .i64 y], .agg [.int .i64 x', .int .i64 y']] (· = .bool (fO a b c d x y x' y')) := by
 refine cf Tryz.func122 ?_
 refine ag (rb Z Z (rb Z Z (rb Z Z (rb Z Z (rv Z Z (rn (aS (ag (rg 3 rfl (bt Z Z Z (tS) (rv Z Z ?_)))))))))))
 (iterate 3 all_goals (first | refine d6 (rv Z Z ?_) | refine d7 ?_ | refine d8 ?_ | refine gs Z Z Z Z Z (fun hg => rv Z Z ?_) fun hg => ?_)) <;> (
 (first | refine d6 (bt Z Z Z (tS) (?_)) | refine d7 ?_ | refine d8 ?_ | refine gs Z Z Z Z Z (fun hg => bt Z Z Z (tS) (?_)) fun hg => ?_) <;> (
 refine rg 2 rfl ?_
 (iterate 3 all_goals (first | refine d6 (rv Z Z ?_) | refine d7 ?_ | refine d8 ?_ | refine gs Z Z Z Z Z (fun hg => rv Z Z ?_) fun hg => ?_)) <;> (
 (first | refine d6 (bt Z Z Z (tS) (?_)) | refine d7 ?_ | refine d8 ?_ | refine gs Z Z Z Z Z (fun hg => bt Z Z Z (tS) (?_)) fun hg => ?_) <;> (
 refine rg 2 rfl ?_
 (iterate 3 all_goals (first | refine d6 (rv Z Z ?_) | refine d7 ?_ | refine d8 ?_ | refine gs Z Z Z Z Z (fun hg => rv Z Z ?_) fun hg => ?_)) <;> (
 (first | refine d6 (bt Z Z Z (tS) (?_)) | refine d7 ?_ | refine d8 ?_ | refine gs Z Z Z Z Z (fun hg => bt Z Z Z (tS) (?_)) fun hg => ?_) <;> (
 refine rv Z Z (rn (ak ?_))
 refine fB rfl (fun hc => ?_) (fun hc => ?_)
 ·
  first
  | (cases hc; done)
  | (
   refine ag (rv Z Z (rn (aT ?_)))
   repeat (first | refine an ?_ | refine ac ?_)
   refine rr Z Z ?_
   first | rfl | (simp [*]; done) | (simp [fO, jC]; done) | (simp [fO, jC, *]; done) | (simp_all [fO, jC]; done))
 ·
  first
  | (cases hc; done)
  | (
   refine aK (aS (mw 22 Tryz.mix (dv Z Z (fun _ => rfl) (dv Z Z (fun _ => rfl) (dv Z Z (fun _ => rfl) (dc Z Z Z Z (fun _ => rfl) (fun _ => (nu)) (dv Z Z (fun _ => rfl) (dv Z Z (fun _ => rfl) (dv Z Z (fun _ => rfl) (dc Z Z Z Z (fun _ => rfl) (fun _ => (nu)) (dv Z Z (fun _ => rfl) (dv Z Z (fun _ => rfl) (dv Z Z (fun _ => rfl) ?_)))))))))))))
   (first | refine dv Z Z (fun _ => rfl) ?_ | refine bB Z Z ?_ | (refine ds Z Z (fun hg => ?_) (fun hg => ?_) <;> first | refine dv Z Z (fun _ => rfl) ?_ | refine bB Z Z ?_)) <;> (
   (first | refine dv Z Z (fun _ => rfl) ?_ | refine bB Z Z ?_ | (refine ds Z Z (fun hg => ?_) (fun hg => ?_) <;> first | refine dv Z Z (fun _ => rfl) ?_ | refine bB Z Z ?_)) <;> (
   (first | refine dv Z Z (fun _ => rfl) ?_ | refine bB Z Z ?_ | (refine ds Z Z (fun hg => ?_) (fun hg => ?_) <;> first | refine dv Z Z (fun _ => rfl) ?_ | refine bB Z Z ?_)) <;> (
   (first | refine dc Z Z Z Z (fun _ => rfl) (fun _ => (nu)) ?_ | refine bB Z Z ?_ | (refine ds Z Z (fun hg => ?_) (fun hg => ?_) <;> first | refine dc Z Z Z Z (fun _ => rfl) (fun _ => (nu)) ?_ | refine bB Z Z ?_)) <;> (
   (first | refine dv Z Z (fun _ => rfl) ?_ | refine bB Z Z ?_ | (refine ds Z Z (fun hg => ?_) (fun hg => ?_) <;> first | refine dv Z Z (fun _ => rfl) ?_ | refine bB Z Z ?_)) <;> (
   (first | refine dv Z Z (fun _ => rfl) ?_ | refine bB Z Z ?_ | (refine ds Z Z (fun hg => ?_) (fun hg => ?_) <;> first | refine dv Z Z (fun _ => rfl) ?_ | refine bB Z Z ?_)) <;> (
   (first | refine dv Z Z (fun _ => rfl) ?_ | refine bB Z Z ?_ | (refine ds Z Z (fun hg => ?_) (fun hg => ?_) <;> first | refine dv Z Z (fun _ => rfl) ?_ | refine bB Z Z ?_)) <;> (
   (first | refine dc Z Z Z Z (fun _ => rfl) (fun _ => (nu)) ?_ | refine bB Z Z ?_ | (refine ds Z Z (fun hg => ?_) (fun hg => ?_) <;> first | refine dc Z Z Z Z (fun _ => rfl) (fun _ => (nu)) ?_ | refine bB Z Z ?_)) <;> (
   (first | refine dv Z Z (fun _ => rfl) ?_ | refine bB Z Z ?_ | (refine ds Z Z (fun hg => ?_) (fun hg => ?_) <;> first | refine dv Z Z (fun _ => rfl) ?_ | refine bB Z Z ?_)) <;> (
   (first | refine dv Z Z (fun _ => rfl) ?_ | refine bB Z Z ?_ | (refine ds Z Z (fun hg => ?_) (fun hg => ?_) <;> first | refine dv Z Z (fun _ => rfl) ?_ | refine bB Z Z ?_)) <;> (
   refine dv Z Z (fun _ => rfl) (dn (rv Z Z (rn (aT ?_))))
   repeat (first | refine an ?_ | refine ac ?_)
   refine rr Z Z ?_
   first | rfl | (simp [*]; done) | (simp [fO, jC]; done) | (simp [fO, jC, *]; done) | (simp_all [fO, jC]; done))))))))))))))))))
end
section
attribute [local irreducible] cg aM DP ai aP Decidable.decide
theorem IC {a b c d : Int} : ai Tryz.prog 135 [.agg [.int .i64 a, .int .i64 b], .agg [.int .i64 c, .int .i64 d]] (· = Ib (du a b c d) (W (a + c)) (W (b + d))) := by
 refine cf Tryz.func135 ?_
 refine ag (rb Z Z (rb Z Z (ra Z Z Z (rv Z Z (rn (aS (ag (rv Z Z (bt Z Z Z jz (rg 2 rfl ?_))))))))))
 ((first | refine d6 (rv Z Z ?_) | refine d7 ?_ | refine d8 ?_ | refine gs Z Z Z Z Z (fun hg => rv Z Z ?_) fun hg => ?_)) <;> (
 (first | refine d6 (bt Z Z Z jz (?_)) | refine d7 ?_ | refine d8 ?_ | refine gs Z Z Z Z Z (fun hg => bt Z Z Z jz (?_)) fun hg => ?_) <;> (
 ((first | refine d6 (rv Z Z ?_) | refine d7 ?_ | refine d8 ?_ | refine gs Z Z Z Z Z (fun hg => rv Z Z ?_) fun hg => ?_)) <;> (
 refine rv Z Z (rn (ak ?_))
 refine fB rfl (fun hc => ?_) (fun hc => ?_)
 ·
  first
  | (cases hc; done)
  | (
   refine ag (rg 2 rfl (rs Z Z Z Z Z Z Z (rv Z Z (rn (aT ?_)))))
   repeat (first | refine an ?_ | refine ac ?_)
   refine rr Z Z ?_
   (have hq : du a b c d = true ∨ du a b c d = false := by cases du a b c d <;> simp) <;> rcases hq with hq | hq <;> first | (rw [hq]; rfl) | (exfalso; simp_all [du]; done))
 ·
  first
  | (cases hc; done)
  | (
   refine aK (ag (rg 11 rfl (ra Z Z Z (rs Z Z Z Z Z Z Z (rn (aS (ag (rv Z Z (bt Z Z Z jz (rv Z Z (rn (ak ?_))))))))))))
   refine fB rfl (fun hc => ?_) (fun hc => ?_)
   ·
    first
    | (cases hc; done)
    | (
     refine ag (rg 2 rfl (rs Z Z Z Z Z Z Z (rv Z Z (rn (aT ?_)))))
     repeat (first | refine an ?_ | refine ac ?_)
     refine rr Z Z ?_
     (have hq : du a b c d = true ∨ du a b c d = false := by cases du a b c d <;> simp) <;> rcases hq with hq | hq <;> first | (rw [hq]; rfl) | (exfalso; simp_all [du]; done))
   ·
    first
    | (cases hc; done)
    | (
     refine aK (ag (rv Z Z (rs Z Z Z Z Z Z Z (rv Z Z (rn (aT ?_))))))
     repeat (first | refine an ?_ | refine ac ?_)
     refine rr Z Z ?_
     (have hq : du a b c d = true ∨ du a b c d = false := by cases du a b c d <;> simp) <;> rcases hq with hq | hq <;> first | (rw [hq]; rfl) | (exfalso; simp_all [du]; done))))))
end
theorem zN {a b c d : Int} {p : Bool} (h : du a b c d = p) : ai Tryz.prog 135 [.agg [.int .i64 a, .int .i64 b], .agg [.int .i64 c, .int .i64 d]] (· = Ib p (W (a + c)) (W (b + d))) := h ▸ IC
def yO (x y n : Int) : Bool := decide (x ≤ n) && decide (n ≤ y) || decide (y ≤ n) && decide (n ≤ x)
theorem FF (x y n : Int) : yO x y n = yU x y n := by
 rw [Bool.eq_iff_iff]
 simp only [yO, yU, sP, sT, Bool.or_eq_true, Bool.and_eq_true, decide_eq_true_eq]; omega
theorem Fi (a b : Int) : (a == b) = decide (a = b) := rfl
def uI (a b c d x y : Int) : Bool := decide (dH a b c d x y = 0) && yO a c x && yO b d y
theorem Bi (a b c d x y : Int) : uI a b c d x y = om a b c d x y := by simp only [uI, om, FF]
def sb (a b c d x y x' y' : Int) : Bool := decide (W (dH a b c d x y * dH a b c d x' y') = -1) && decide (W (dH x y x' y' a b * dH x y x' y' c d) = -1)
theorem sD (p q : Int) : sg p q = -1 ∨ sg p q = 0 ∨ sg p q = 1 := by
 unfold sg
 split
 · simp
 · split <;> simp
theorem E6 {s t : Int} (h : s = -1 ∨ s = 0 ∨ s = 1) (k : t = -1 ∨ t = 0 ∨ t = 1) : W (s * t) < 0 ↔ W (s * t) = -1 := by
 rcases h with rfl | rfl | rfl <;> rcases k with rfl | rfl | rfl <;> decide
theorem zl (a b c d x y x' y' : Int) : sb a b c d x y x' y' = jC a b c d x y x' y' := by
 unfold sb jC dH
 rw [Bool.eq_iff_iff]
 simp only [Bool.and_eq_true, decide_eq_true_eq, E6 (sD _ _) (sD _ _)]
def rU (a b c d x y x' y' : Int) : Bool := uI a b c d x y || uI a b c d x' y' || uI x y x' y' a b || uI x y x' y' c d || sb a b c d x y x' y'
theorem zI (a b c d x y x' y' : Int) : rU a b c d x y x' y' = fO a b c d x y x' y' := by simp only [rU, fO, Bi, zl]
section
attribute [local irreducible] cg aM DP ai aP Decidable.decide
theorem iu {a b c d x y : Int} : ai Tryz.prog 200 [.agg [.int .i64 a, .int .i64 b], .agg [.int .i64 c, .int .i64 d], .agg [.int .i64 x, .int .i64 y]] (· = .int .i64 (dH a b c d x y)) := by
 refine cf Tryz.func200 ?_
 refine ag (rb Z Z (rb Z Z (rb Z Z (rv Z Z (rn (ag (rg 12 rfl (rn (ag (rg 12 rfl (rn (aS (ag (rg 3 rfl (rn (ak ?_))))))))))))))))
 refine fB rfl (fun hc => ?_) (fun hc => ?_)
 ·
  first
  | (cases hc; done)
  | (
   refine ag (rv Z Z (rn (aT ?_)))
   repeat (first | refine an ?_ | refine ac ?_)
   refine rr Z Z ?_
   (simp only [decide_eq_true_eq, decide_eq_false_iff_not, gt_iff_lt] at *; unfold dH sg W; simp [*] <;> omega))
 ·
  first
  | (cases hc; done)
  | (
   refine aK (aS (ag (rg 3 rfl (rn (ak ?_)))))
   refine fB rfl (fun hc => ?_) (fun hc => ?_)
   ·
    first
    | (cases hc; done)
    | (
     refine ag (rv Z Z (rn (aT ?_)))
     repeat (first | refine an ?_ | refine ac ?_)
     refine rr Z Z ?_
     (simp only [decide_eq_true_eq, decide_eq_false_iff_not, gt_iff_lt] at *; unfold dH sg W; simp [*] <;> omega))
   ·
    first
    | (cases hc; done)
    | (
     refine aK (ag (rv Z Z (rn (aT ?_))))
     repeat (first | refine an ?_ | refine ac ?_)
     refine rr Z Z ?_
     (simp only [decide_eq_true_eq, decide_eq_false_iff_not, gt_iff_lt] at *; unfold dH sg W; simp [*] <;> omega)))
end
section
attribute [local irreducible] cg aM DP ai aP Decidable.decide
theorem D1 {x y n : Int} : ai Tryz.prog 199 [.int .i64 x, .int .i64 y, .int .i64 n] (· = .bool (yO x y n)) := by
 refine cf Tryz.func199 ?_
 refine ag (rv Z Z (rn (ag (rg 4 rfl ?_))))
 (iterate 3 all_goals (first | refine d6 (rv Z Z ?_) | refine d7 ?_ | refine d8 ?_ | refine gs Z Z Z Z Z (fun hg => rv Z Z ?_) fun hg => ?_)) <;> (
 refine rg 2 rfl ?_
 (iterate 8 all_goals (first | refine d6 (rv Z Z ?_) | refine d7 ?_ | refine d8 ?_ | refine gs Z Z Z Z Z (fun hg => rv Z Z ?_) fun hg => ?_)) <;> (
 refine rg 2 rfl (rn (aT ?_))
 repeat (first | refine an ?_ | refine ac ?_)
 refine rr Z Z ?_
 first | rfl | (simp [*]; done) | (simp [yO]; done) | (simp [yO, *]; done) | (simp_all [yO]; done)))
end
section
attribute [local irreducible] cg aM DP ai aP Decidable.decide
theorem xP {a b c d x y : Int} : ai Tryz.prog 139 [.agg [.int .i64 a, .int .i64 b], .agg [.int .i64 c, .int .i64 d], .agg [.int .i64 x, .int .i64 y]] (· = .bool (uI a b c d x y)) := by
 refine cf Tryz.func139 ?_
 refine ag (rb Z Z (rb Z Z (rb Z Z (rv Z Z (rn (ag (rg 6 rfl (bt Z Z Z (D1) (rv Z Z (rn (ag (rg 6 rfl (bt Z Z Z (D1) (rv Z Z (rn (ag (rg 3 rfl (bt Z Z Z (iu) (rg 2 rfl ?_)))))))))))))))))))
 ((first | refine d6 (rv Z Z ?_) | refine d7 ?_ | refine d8 ?_ | refine gs Z Z Z Z Z (fun hg => rv Z Z ?_) fun hg => ?_)) <;> (
 refine rg 2 rfl ?_
 ((first | refine d6 (rv Z Z ?_) | refine d7 ?_ | refine d8 ?_ | refine gs Z Z Z Z Z (fun hg => rv Z Z ?_) fun hg => ?_)) <;> (
 refine rg 2 rfl (rn (aT ?_))
 repeat (first | refine an ?_ | refine ac ?_)
 refine rr Z Z ?_
 first | rfl | (simp [*]; done) | (simp [uI]; done) | (simp [uI, *]; done) | (simp_all [uI]; done)))
end
section
attribute [local irreducible] cg aM DP ai aP Decidable.decide
theorem D2 {a b c d x y x' y' : Int} : ai Tryz.prog 140 [.agg [.int .i64 a, .int .i64 b], .agg [.int .i64 c, .int .i64 d], .agg [.int .i64 x, .int .i64 y], .agg [.int .i64 x', .int .i64 y']] (· = .bool (rU a b c d x y x' y')) := by
 refine cf Tryz.func140 ?_
 refine ag (rb Z Z (rb Z Z (rb Z Z (rb Z Z (rv Z Z (rn (ag (rg 3 rfl (bt Z Z Z (xP) (rv Z Z (rn (ag (rg 3 rfl (bt Z Z Z (xP) (rv Z Z (rn (ag (rg 3 rfl (bt Z Z Z (xP) (rv Z Z (rn (ag (rg 3 rfl (bt Z Z Z (xP) (rv Z Z (rn (aS (mw 22 Tryz.mix (dv Z Z (fun _ => rfl) (dv Z Z (fun _ => rfl) (dv Z Z (fun _ => rfl) (dc Z Z Z Z (fun _ => rfl) (fun _ => (iu)) (dv Z Z (fun _ => rfl) (dv Z Z (fun _ => rfl) (dv Z Z (fun _ => rfl) (dc Z Z Z Z (fun _ => rfl) (fun _ => (iu)) (dv Z Z (fun _ => rfl) (dv Z Z (fun _ => rfl) (dv Z Z (fun _ => rfl) ?_)))))))))))))))))))))))))))))))))))))))
 (first | refine dv Z Z (fun _ => rfl) ?_ | refine bB Z Z ?_ | (refine ds Z Z (fun hg => ?_) (fun hg => ?_) <;> first | refine dv Z Z (fun _ => rfl) ?_ | refine bB Z Z ?_)) <;> (
 (first | refine dv Z Z (fun _ => rfl) ?_ | refine bB Z Z ?_ | (refine ds Z Z (fun hg => ?_) (fun hg => ?_) <;> first | refine dv Z Z (fun _ => rfl) ?_ | refine bB Z Z ?_)) <;> (
 (first | refine dv Z Z (fun _ => rfl) ?_ | refine bB Z Z ?_ | (refine ds Z Z (fun hg => ?_) (fun hg => ?_) <;> first | refine dv Z Z (fun _ => rfl) ?_ | refine bB Z Z ?_)) <;> (
 (first | refine dc Z Z Z Z (fun _ => rfl) (fun _ => (iu)) ?_ | refine bB Z Z ?_ | (refine ds Z Z (fun hg => ?_) (fun hg => ?_) <;> first | refine dc Z Z Z Z (fun _ => rfl) (fun _ => (iu)) ?_ | refine bB Z Z ?_)) <;> (
 (first | refine dv Z Z (fun _ => rfl) ?_ | refine bB Z Z ?_ | (refine ds Z Z (fun hg => ?_) (fun hg => ?_) <;> first | refine dv Z Z (fun _ => rfl) ?_ | refine bB Z Z ?_)) <;> (
 (first | refine dv Z Z (fun _ => rfl) ?_ | refine bB Z Z ?_ | (refine ds Z Z (fun hg => ?_) (fun hg => ?_) <;> first | refine dv Z Z (fun _ => rfl) ?_ | refine bB Z Z ?_)) <;> (
 (first | refine dv Z Z (fun _ => rfl) ?_ | refine bB Z Z ?_ | (refine ds Z Z (fun hg => ?_) (fun hg => ?_) <;> first | refine dv Z Z (fun _ => rfl) ?_ | refine bB Z Z ?_)) <;> (
 (first | refine dc Z Z Z Z (fun _ => rfl) (fun _ => (iu)) ?_ | refine bB Z Z ?_ | (refine ds Z Z (fun hg => ?_) (fun hg => ?_) <;> first | refine dc Z Z Z Z (fun _ => rfl) (fun _ => (iu)) ?_ | refine bB Z Z ?_)) <;> (
 (first | refine dv Z Z (fun _ => rfl) ?_ | refine bB Z Z ?_ | (refine ds Z Z (fun hg => ?_) (fun hg => ?_) <;> first | refine dv Z Z (fun _ => rfl) ?_ | refine bB Z Z ?_)) <;> (
 (first | refine dv Z Z (fun _ => rfl) ?_ | refine bB Z Z ?_ | (refine ds Z Z (fun hg => ?_) (fun hg => ?_) <;> first | refine dv Z Z (fun _ => rfl) ?_ | refine bB Z Z ?_)) <;> (
 refine dv Z Z (fun _ => rfl) (dn (rv Z Z (rn (ag (rg 2 rfl ?_)))))
 ((first | refine d6 (rv Z Z ?_) | refine d7 ?_ | refine d8 ?_ | refine gs Z Z Z Z Z (fun hg => rv Z Z ?_) fun hg => ?_)) <;> (
 refine rg 2 rfl ?_
 ((first | refine d6 (rv Z Z ?_) | refine d7 ?_ | refine d8 ?_ | refine gs Z Z Z Z Z (fun hg => rv Z Z ?_) fun hg => ?_)) <;> (
 refine rg 2 rfl ?_
 ((first | refine d6 (rv Z Z ?_) | refine d7 ?_ | refine d8 ?_ | refine gs Z Z Z Z Z (fun hg => rv Z Z ?_) fun hg => ?_)) <;> (
 refine rg 2 rfl ?_
 ((first | refine d6 (rv Z Z ?_) | refine d7 ?_ | refine d8 ?_ | refine gs Z Z Z Z Z (fun hg => rv Z Z ?_) fun hg => ?_)) <;> (
 refine rg 2 rfl (rn (aT ?_))
 repeat (first | refine an ?_ | refine ac ?_)
 refine rr Z Z ?_
 first | rfl | (simp_all [rU, sb, W, Fi]; done)))))))))))))))
end
def xb (a b c d x y : Int) : Int := (c - a) * (y - b) - (d - b) * (x - a)
def Hr (z : Int) : Int := if z < 0 then -1 else if 0 < z then 1 else 0
theorem ph {a b c d x y : Int} (h1 : cA a b = true) (h2 : cA c d = true) (h3 : cA x y = true) : dH a b c d x y = Hr (xb a b c d x y) := by
 rw [ec] at h1 h2 h3
 obtain ⟨b1, b2⟩ := h1
 obtain ⟨b3, b4⟩ := h2
 obtain ⟨b5, b6⟩ := h3
 have m1 := Cr (a := c - a) (b := y - b) (by unfold Bd at *; omega) (by unfold Bd at *; omega)
 have m2 := Cr (a := d - b) (b := x - a) (by unfold Bd at *; omega) (by unfold Bd at *; omega)
 unfold dH
 rw [AA b3 b1, AA b6 b2, AA b4 b2, AA b5 b1, gZ (by omega), gZ (by omega)]
 unfold sg Hr xb
 split <;> split <;> first | rfl | omega | (split <;> split <;> first | rfl | omega) | (split <;> first | rfl | omega)
theorem Fw (z : Int) : Hr (-z) = - Hr z := by unfold Hr; split <;> split <;> first | rfl | omega | (split <;> split <;> first | rfl | omega) | (split <;> first | rfl | omega)
theorem Ck (a b c d x y : Int) : xb c d a b x y = - xb a b c d x y := by
 simp only [xb, Int.sub_mul, Int.mul_sub, Int.mul_comm a, Int.mul_comm c, Int.mul_comm x]; omega
theorem yT (x y n : Int) : yU y x n = yU x y n := by unfold yU; rw [sP, sT, sP, sT, Int.min_comm, Int.max_comm]
theorem AC (x y n p : Int) : yU (x + p) (y + p) (n + p) = yU x y n := by
 rw [Bool.eq_iff_iff]; simp only [yU, sP, sT, Bool.and_eq_true, decide_eq_true_eq]; omega
section
variable {a b c d x y x' y' : Int}
theorem nI (h1 : cA a b = true) (h2 : cA c d = true) (h3 : cA x y = true) : dH c d a b x y = - dH a b c d x y := by
 rw [ph h1 h2 h3, ph h2 h1 h3, Ck, Fw]
theorem wN (h1 : cA a b = true) (h2 : cA c d = true) (h3 : cA x y = true) : om c d a b x y = om a b c d x y := by
 unfold om
 rw [nI h1 h2 h3, yT, yT d]
 congr 2
 rw [decide_eq_decide]; omega
theorem zX (h1 : cA a b = true) (h2 : cA c d = true) (h3 : cA x y = true) (h4 : cA x' y' = true) : fO x y x' y' c d a b = fO a b c d x y x' y' := by
 unfold fO jC
 rw [wN h1 h2 h3, wN h1 h2 h4, nI h1 h2 h3, nI h1 h2 h4, Int.neg_mul_neg, Int.mul_comm (dH x y x' y' c d)]
 generalize om x y x' y' c d = p, om x y x' y' a b = q, om a b c d x y = r, om a b c d x' y' = s, decide (W (dH a b c d x y * dH a b c d x' y') < 0) = t, decide (W (dH x y x' y' a b * dH x y x' y' c d) < 0) = u
 cases p <;> cases q <;> cases r <;> cases s <;> cases t <;> cases u <;> rfl
theorem sa (h : du a b x y = true) : cA a b = true ∧ cA x y = true ∧ W (a + x) = a + x ∧ W (b + y) = b + y ∧ cA (a + x) (b + y) = true := by
 simp only [du, Bool.and_eq_true] at h
 obtain ⟨⟨h1, h2⟩, h3⟩ := h
 have k1 := ec.1 h1
 have k2 := ec.1 h2
 have e1 := Gb k1.1 k2.1
 have e2 := Gb k1.2 k2.2
 rw [e1, e2] at h3
 exact ⟨h1, h2, e1, e2, h3⟩
end
section
attribute [local irreducible] cg aM DP ai aP Decidable.decide
theorem AW {x y : Int} : ai Tryz.prog 138 [.int .i64 x, .int .i64 y] (· = .int .i64 (Ey x y)) := by
 refine cf Tryz.func138 ?_
 refine ag (rv Z Z (rn (ag (rg 4 rfl (bt Z Z Z pQ (rg 2 rfl (rn (aT ?_))))))))
 repeat (first | refine an ?_ | refine ac ?_)
 refine rr Z Z ?_
 first | rfl | (simp only [Ey]; done)
end
section
attribute [local irreducible] cg aM DP ai aP Decidable.decide
theorem AN {a b c d a' b' c' d' : Int} : ai Tryz.prog 90 [.agg [.int .i64 a, .int .i64 b, .int .i64 c, .int .i64 d], .agg [.int .i64 a', .int .i64 b', .int .i64 c', .int .i64 d']] (· = .agg [.int .i64 (mn a' a), .int .i64 (mn b' b), .int .i64 (Ey c c'), .int .i64 (Ey d d')]) := by
 refine cf Tryz.func90 ?_
 refine ag (rb Z Z (rb Z Z (ra Z Z Z (rn (aS (mw 21 Tryz.mix (dv Z Z (fun _ => rfl) (dv Z Z (fun _ => rfl) (dv Z Z (fun _ => rfl) (dv Z Z (fun _ => rfl) (dc Z Z Z Z (fun _ => rfl) (fun _ => pQ) (dv Z Z (fun _ => rfl) (dv Z Z (fun _ => rfl) (dv Z Z (fun _ => rfl) (dv Z Z (fun _ => rfl) (dc Z Z Z Z (fun _ => rfl) (fun _ => pQ) (dv Z Z (fun _ => rfl) (dv Z Z (fun _ => rfl) (dv Z Z (fun _ => rfl) (dv Z Z (fun _ => rfl) (dc Z Z Z Z (fun _ => rfl) (fun _ => (AW)) (dv Z Z (fun _ => rfl) (dv Z Z (fun _ => rfl) (dv Z Z (fun _ => rfl) (dv Z Z (fun _ => rfl) (dc Z Z Z Z (fun _ => rfl) (fun _ => (AW)) (dv Z Z (fun _ => rfl) (dn (rs Z Z Z Z Z Z Z (rn (aT ?_)))))))))))))))))))))))))))))))
 repeat (first | refine an ?_ | refine ac ?_)
 refine rr Z Z ?_
 first | rfl | (simp [*]; done) | (simp []; done) | (simp [*]; done) | (simp_all []; done)
end
theorem rL (x y : Int) : mn x y = mn y x := by unfold mn; omega
abbrev Pt := Int × Int
def pr (p : Pt) : List AV := [.int .i64 p.1, .int .i64 p.2]
def rows (ps : List Pt) : List (List AV) := ps.map pr
theorem eS (ps : List Pt) : (rows ps).length = ps.length := by simp [rows]
theorem iy {ps : List Pt} {i : Nat} (h : i < ps.length) : (rows ps)[((i : Int)).toNat]? = some [.int .i64 (ps[i]'h).1, .int .i64 (ps[i]'h).2] := by
 simp [rows, pr, h]
theorem bz (ps : List Pt) : eB 2 (rows ps) := by
 intro r hr
 obtain ⟨p, _, rfl⟩ := List.mem_map.1 hr
 rfl
def pF (p : Pt) : Bool := cA p.1 p.2
def box (ps : List Pt) : Nat → Int × Int × Int × Int
 | 0 => (0, 0, 0, 0)
 | i + 1 => match ps[i]? with
  | none => (0, 0, 0, 0)
  | some p => if i = 0 then (p.1, p.2, p.1, p.2) else
   let b := box ps i
   (mn b.1 p.1, mn b.2.1 p.2, mx b.2.2.1 p.1, mx b.2.2.2 p.2)
theorem nv {ps : List Pt} {i : Nat} (h : i < ps.length) (h0 : decide ((i : Int) > 0) = true) :
  box ps (i + 1) = (mn (box ps i).1 (ps[i]'h).1, mn (box ps i).2.1 (ps[i]'h).2, mx (box ps i).2.2.1 (ps[i]'h).1, mx (box ps i).2.2.2 (ps[i]'h).2) := by
 have : i ≠ 0 := by simp at h0; omega
 simp [box, h, this]
theorem pt {ps : List Pt} {i : Nat} (h : i < ps.length) (h0 : decide ((i : Int) > 0) = false) : box ps (i + 1) = ((ps[i]'h).1, (ps[i]'h).2, (ps[i]'h).1, (ps[i]'h).2) := by
 have : i = 0 := by simp at h0; omega
 subst this
 simp [box, h]
def d9 (ps : List Pt) : Bool := ps.all pF
def HP (ps : List Pt) : AV := .tup [.agg [.int .i64 (mt (d9 ps) (box ps ps.length).1), .int .i64 (mt (d9 ps) (box ps ps.length).2.1), .int .i64 (mt (d9 ps) (box ps ps.length).2.2.1), .int .i64 (mt (d9 ps) (box ps ps.length).2.2.2)], .bool (d9 ps && decide (((rows ps).length : Int) > 0))]
theorem lP {ps : List Pt} {i : Nat} (h : i < ps.length) (hm : cA (ps[i]'h).1 (ps[i]'h).2 = false) : d9 ps = false := by
 rw [Bool.eq_false_iff]
 intro ha
 have := List.all_eq_true.1 ha _ (List.getElem_mem h)
 rw [pF, hm] at this; cases this
theorem qu {ps : List Pt} {i : Nat} (h : i < ps.length) (ha : d9 (ps.take i) = true) (hm : cA (ps[i]'h).1 (ps[i]'h).2 = true) : d9 (ps.take (i + 1)) = true := by
 rw [List.take_add_one, List.getElem?_eq_getElem h]
 simp only [d9, List.all_append] at *
 simp [ha, pF, hm]
theorem gf {ps : List Pt} {i : Nat} (h : i ≤ ps.length ∧ d9 (ps.take i) = true) (hn : ¬ i < ps.length) : d9 ps = true ∧ ps.length = i := by
 have : i = ps.length := by omega
 subst this
 simpa using h.2
theorem bh {i : Nat} {ps : List Pt} (h : decide ((i : Int) < ((rows ps).length : Int)) = false) : ¬ i < ps.length := by
 rw [eS] at h; simp at h; omega
theorem jE {i : Nat} {ps : List Pt} (h : decide ((i : Int) < ((rows ps).length : Int)) = true) : i < ps.length := by
 rw [eS] at h; simp at h; omega
section
attribute [local irreducible] cg aM DP ai aP Decidable.decide
theorem H9 {ps : List Pt} (hl : ps.length ≤ maxLen) : ai Tryz.prog 128 [.sl (rows ps)] (· = HP ps) := by
 refine cf Tryz.func128 ?_
 refine ag (ra Z Z Z (rv Z Z (rn (ag (ra Z Z Z (rn (aS (ag (rg 3 rfl (rn (aB ?_)))))))))))
 refine eQ (ι := Nat) (fun i => ⟨[(0, .sl (rows ps)), (2, .ptr 0 0), (3, .bool false), (4, .ptr 1 0), (8, .sl (rows ps)), (9, .int .i64 ((rows ps).length : Int)), (10, .int .i64 (i : Int))], [(0, 0, .int .i64 0), (0, 1, .int .i64 0), (0, 2, .int .i64 0), (0, 3, .int .i64 0), (1, 0, .int .i64 (box ps i).1), (1, 1, .int .i64 (box ps i).2.1), (1, 2, .int .i64 (box ps i).2.2.1), (1, 3, .int .i64 (box ps i).2.2.2)], [], 2⟩) (fun i => i ≤ ps.length ∧ d9 (ps.take i) = true) (fun i => ps.length - i) (0) (⟨Nat.zero_le _, rfl⟩) ?_ (fun _ => Nat.zero_le _) (fun i hi => ?_)
 · (refine ⟨Nat.le_of_ble_eq_true rfl, ?_, ?_, ?_⟩ <;> repeat' (first | exact trivial | rfl | refine ⟨⟨?_, rfl⟩, ?_⟩ | refine ⟨⟨?_, rfl, rfl⟩, ?_⟩ | ((first | refine ei ?_ | refine eh ?_ | refine eb ?_ | refine oh ?_ | skip); first | exact bg hlt hl | (rw [nv hlt hc]; done) | (rw [pt hlt hc]; done))))
 refine ag (rv Z Z (rn (aS ?_)))
 refine fB rfl (fun hc => ?_) (fun hc => ?_)
 ·
  first
  | (cases hc; done)
  | (
   refine aK (aS (aB (aS ?_)))
   (have hlt := jE hc) <;> (
   refine aR (rv Z Z (ri Z Z Z Z Z Z (Int.natCast_nonneg i) (iy hlt) (bz ps) (rv Z Z (ra Z Z Z (rv Z Z (rs Z Z Z Z Z Z Z (rn (aS (ag (rv Z Z (bt Z Z Z jz (rv Z Z (rn (ak ?_))))))))))))))
   refine fB rfl (fun hc => ?_) (fun hc => ?_)
   ·
    first
    | (cases hc; done)
    | (
     refine ag (rv Z Z (rs Z Z Z Z Z Z Z (rv Z Z (rn (aT ?_)))))
     repeat (first | refine an ?_ | refine ac ?_)
     refine rr Z Z ?_
     first | (have hm := lP hlt (by simpa using hc); simp only [HP, hm, mt]; rfl) | (have hal := gf hi (bh hc); simp only [HP, hal.1, hal.2, mt]; rfl))
   ·
    first
    | (cases hc; done)
    | (
     refine aK (aS ?_)
     (have hm := hc) <;> (
     refine aR (rg 9 rfl (ra Z Z Z (rs Z Z Z Z Z Z Z (rn (aS (ag (rg 2 rfl (rn (ak ?_)))))))))
     refine fB rfl (fun hc => ?_) (fun hc => ?_)
     ·
      first
      | (cases hc; done)
      | (
       refine aR (rg 2 rfl (bt Z Z Z Aq (rs Z Z Z Z Z Z Z (rn (aR (rv Z Z (rs Z Z Z Z Z Z Z (rn (ah (aR (rg 2 rfl (rn (ak ?_)))))))))))))
       refine ⟨i + 1, ⟨hlt, qu hlt hi.2 (by simpa using hm)⟩, by omega, ?_⟩
       (refine ⟨Nat.le_of_ble_eq_true rfl, ?_, ?_, ?_⟩ <;> repeat' (first | exact trivial | rfl | refine ⟨⟨?_, rfl⟩, ?_⟩ | refine ⟨⟨?_, rfl, rfl⟩, ?_⟩ | ((first | refine ei ?_ | refine eh ?_ | refine eb ?_ | refine oh ?_ | skip); first | exact bg hlt hl | (rw [nv hlt hc]; done) | (rw [pt hlt hc]; done)))))
     ·
      first
      | (cases hc; done)
      | (
       refine aK (aR (rv Z Z (rs Z Z Z Z Z Z Z (rn (ah (aR (rg 2 rfl (rn (ak ?_)))))))))
       refine ⟨i + 1, ⟨hlt, qu hlt hi.2 (by simpa using hm)⟩, by omega, ?_⟩
       (refine ⟨Nat.le_of_ble_eq_true rfl, ?_, ?_, ?_⟩ <;> repeat' (first | exact trivial | rfl | refine ⟨⟨?_, rfl⟩, ?_⟩ | refine ⟨⟨?_, rfl, rfl⟩, ?_⟩ | ((first | refine ei ?_ | refine eh ?_ | refine eb ?_ | refine oh ?_ | skip); first | exact bg hlt hl | (rw [nv hlt hc]; done) | (rw [pt hlt hc]; done)))))))))
 ·
  first
  | (cases hc; done)
  | (
   refine aW ?_
   repeat (first | refine cO ?_ | refine bE rfl ?_)
   refine bI (ag (rg 4 rfl (rs Z Z Z Z Z Z Z (rv Z Z (rn (aT ?_))))))
   repeat (first | refine an ?_ | refine ac ?_)
   refine rr Z Z ?_
   first | (have hm := lP hlt (by simpa using hc); simp only [HP, hm, mt]; rfl) | (have hal := gf hi (bh hc); simp only [HP, hal.1, hal.2, mt]; rfl))
end
def kc (ps : List Pt) : Nat → Int × Int × Int × Int
 | 0 => match ps[0]? with
  | none => (0, 0, 0, 0)
  | some p => (p.1, p.2, p.1, p.2)
 | i + 1 => match ps[i]? with
  | none => (0, 0, 0, 0)
  | some p => let b := kc ps i
   (mn p.1 b.1, mn p.2 b.2.1, Ey b.2.2.1 p.1, Ey b.2.2.2 p.2)
theorem nG {ps : List Pt} (h : 0 < ps.length) : (rows ps)[(0 : Int).toNat]? = some [.int .i64 (ps[0]'h).1, .int .i64 (ps[0]'h).2] := iy (i := 0) h
theorem vn {ps : List Pt} (h : 0 < ps.length) : kc ps 0 = ((ps[0]'h).1, (ps[0]'h).2, (ps[0]'h).1, (ps[0]'h).2) := by simp [kc, h]
theorem qh {ps : List Pt} {i : Nat} (h : i < ps.length) :
  kc ps (i + 1) = (mn (ps[i]'h).1 (kc ps i).1, mn (ps[i]'h).2 (kc ps i).2.1, Ey (kc ps i).2.2.1 (ps[i]'h).1, Ey (kc ps i).2.2.2 (ps[i]'h).2) := by
 simp [kc, h]
def mO (ps : List Pt) : Bool := d9 ps && decide (0 < ps.length)
def BU (ps : List Pt) : AV := .tup [.agg [.int .i64 (mt (mO ps) (kc ps ps.length).1), .int .i64 (mt (mO ps) (kc ps ps.length).2.1), .int .i64 (mt (mO ps) (kc ps ps.length).2.2.1), .int .i64 (mt (mO ps) (kc ps ps.length).2.2.2)], .bool (mO ps)]
theorem tX {ps : List Pt} (h : decide (((rows ps).length : Int) = 0) = true) : mO ps = false := by
 rw [eS] at h; simp [mO]; intro _; simp at h; simp [h]
theorem Fk {ps : List Pt} (h : decide (((rows ps).length : Int) = 0) = false) : 0 < ps.length := by
 rw [eS] at h; simp at h; cases ps <;> simp_all
theorem F3 {x y : Int} (h : Bd x) (k : Bd y) : Bd (mn x y) := by unfold mn; split <;> assumption
theorem F2 {x y : Int} (h : Bd x) (k : Bd y) : Bd (mx x y) := by unfold mx; split <;> assumption
theorem y9 {ps : List Pt} (ha : d9 ps = true) : ∀ i, i < ps.length → Jd (box ps (i + 1)).1 (box ps (i + 1)).2.1 (box ps (i + 1)).2.2.1 (box ps (i + 1)).2.2.2 ∧ kc ps (i + 1) = box ps (i + 1)
 | 0, h => by
  have hm := List.all_eq_true.1 ha _ (List.getElem_mem h)
  rw [pF, ec] at hm
  rw [pt h rfl, qh h, vn h]
  refine ⟨⟨hm.1, hm.2, hm.1, hm.2⟩, ?_⟩
  rw [qc hm.1 hm.1, qc hm.2 hm.2]
  simp [mn, mx]
 | i + 1, h => by
  have hm := List.all_eq_true.1 ha _ (List.getElem_mem h)
  rw [pF, ec] at hm
  obtain ⟨⟨b1, b2, b3, b4⟩, he⟩ := y9 ha i (by omega)
  rw [nv h (by first | (simp; done) | (simp; omega)), qh h, he]
  refine ⟨⟨F3 b1 hm.1, F3 b2 hm.2, F2 b3 hm.1, F2 b4 hm.2⟩, ?_⟩
  rw [qc b3 hm.1, qc b4 hm.2, rL (ps[i + 1].1), rL (ps[i + 1].2)]
theorem JZ (ps : List Pt) : d9 ps = true ∧ 0 < ps.length ∧ mO ps = true ∧ kc ps ps.length = box ps ps.length ∨ mO ps = false ∧ (d9 ps = false ∨ ps = []) := by
 cases ha : d9 ps with
 | false => exact .inr ⟨by simp [mO, ha], .inl rfl⟩
 | true =>
  cases hp : ps.length with
  | zero => exact .inr ⟨by simp [mO, hp], .inr (List.length_eq_zero_iff.1 hp)⟩
  | succ n => exact .inl ⟨rfl, by omega, by simp [mO, ha, hp], (y9 ha n (by omega)).2⟩
theorem qf {ps : List Pt} (h : mO ps = false) : AV.tup [AV.agg [AV.int .i64 0, AV.int .i64 0, AV.int .i64 0, AV.int .i64 0], AV.bool false] = BU ps := by
 unfold BU; rw [h]; rfl
theorem wz {ps : List Pt} {i : Nat} (h : mO ps = true) (hn : ps.length = i) : AV.tup [AV.agg [AV.int .i64 (kc ps i).1, AV.int .i64 (kc ps i).2.1, AV.int .i64 (kc ps i).2.2.1, AV.int .i64 (kc ps i).2.2.2], AV.bool true] = BU ps := by
 unfold BU; rw [h, hn]; rfl
theorem wY {ps : List Pt} (h : d9 ps = false) : mO ps = false := by unfold mO; rw [h]; rfl
theorem sw {ps : List Pt} (h : d9 ps = true) (k : 0 < ps.length) : mO ps = true := by unfold mO; rw [h, decide_eq_true k]; rfl
section
attribute [local irreducible] cg aM DP ai aP Decidable.decide
theorem Ge {ps : List Pt} (hl : ps.length ≤ maxLen) : ai Tryz.prog 52 [.sl (rows ps)] (· = BU ps) := by
 refine cf Tryz.func52 ?_
 refine ag (ra Z Z Z (rv Z Z (rn (aS (ag (rg 3 rfl (rn (ak ?_))))))))
 refine fB rfl (fun hc => ?_) (fun hc => ?_)
 ·
  first
  | (cases hc; done)
  | (
   refine ag (rv Z Z (rs Z Z Z Z Z Z Z (rv Z Z (rn (aT ?_)))))
   repeat (first | refine an ?_ | refine ac ?_)
   refine rr Z Z ?_
   first | exact qf (tX hc) | exact qf (wY (lP hlt (by simpa using hc))) | exact wz (sw (gf hi (bh hc)).1 hpos) (gf hi (bh hc)).2)
 ·
  first
  | (cases hc; done)
  | (
   refine aK (aS ?_)
   (have hpos := Fk hc) <;> (
   refine mw 18 Tryz.mix (dv Z Z (fun _ => rfl) (di Z Z Z Z Z (fun _ => rfl) rfl (Int.le_refl 0) (nG hpos) (bz ps) (dv Z Z (fun _ => rfl) (dv Z Z (fun _ => rfl) (dv Z Z (fun _ => rfl) (di Z Z Z Z Z (fun _ => rfl) rfl (Int.le_refl 0) (nG hpos) (bz ps) (dv Z Z (fun _ => rfl) (dv Z Z (fun _ => rfl) (dv Z Z (fun _ => rfl) (di Z Z Z Z Z (fun _ => rfl) rfl (Int.le_refl 0) (nG hpos) (bz ps) (dv Z Z (fun _ => rfl) (dv Z Z (fun _ => rfl) (dv Z Z (fun _ => rfl) (di Z Z Z Z Z (fun _ => rfl) rfl (Int.le_refl 0) (nG hpos) (bz ps) (dv Z Z (fun _ => rfl) (dv Z Z (fun _ => rfl) (dv Z Z (fun _ => rfl) (da Z Z Z (dn (rs Z Z Z Z Z Z Z (rn (aS (ag (rv Z Z (rn (aB ?_))))))))))))))))))))))))))
   refine eQ (ι := Nat) (fun i => ⟨[(0, .sl (rows ps)), (2, .ptr 0 0), (3, .bool false), (4, .ptr 1 0), (5, .int .i64 (i : Int))], [(0, 0, .int .i64 0), (0, 1, .int .i64 0), (0, 2, .int .i64 0), (0, 3, .int .i64 0), (1, 0, .int .i64 (kc ps i).1), (1, 1, .int .i64 (kc ps i).2.1), (1, 2, .int .i64 (kc ps i).2.2.1), (1, 3, .int .i64 (kc ps i).2.2.2)], [], 2⟩) (fun i => i ≤ ps.length ∧ d9 (ps.take i) = true) (fun i => ps.length - i) (0) (⟨Nat.zero_le _, rfl⟩) ?_ (fun _ => Nat.zero_le _) (fun i hi => ?_)
   · (refine ⟨Nat.le_of_ble_eq_true rfl, ?_, ?_, ?_⟩ <;> repeat' (first | exact trivial | rfl | refine ⟨⟨?_, rfl⟩, ?_⟩ | refine ⟨⟨?_, rfl, rfl⟩, ?_⟩ | ((first | refine ei ?_ | refine eh ?_ | refine eb ?_ | refine oh ?_ | skip); rw [vn hpos])))
   refine aS (ag (rg 4 rfl (rn (ak ?_))))
   refine fB rfl (fun hc => ?_) (fun hc => ?_)
   ·
    first
    | (cases hc; done)
    | (
     refine aK (aS (aB (aS ?_)))
     (have hlt := jE hc) <;> (
     refine aR (rg 2 rfl (ri Z Z Z Z Z Z (Int.natCast_nonneg i) (iy hlt) (bz ps) (rv Z Z (bt Z Z Z kR (rv Z Z (rn (aS (ag (rg 2 rfl (rn (ak ?_)))))))))))
     refine fB rfl (fun hc => ?_) (fun hc => ?_)
     ·
      first
      | (cases hc; done)
      | (
       refine ag (rv Z Z (rs Z Z Z Z Z Z Z (rv Z Z (rn (aT ?_)))))
       repeat (first | refine an ?_ | refine ac ?_)
       refine rr Z Z ?_
       first | exact qf (tX hc) | exact qf (wY (lP hlt (by simpa using hc))) | exact wz (sw (gf hi (bh hc)).1 hpos) (gf hi (bh hc)).2)
     ·
      first
      | (cases hc; done)
      | (
       refine aK (ak ?_)
       (have hm := hc) <;> (
       refine mw 23 Tryz.mix (dv Z Z (fun _ => rfl) (dv Z Z (fun _ => rfl) (dv Z Z (fun _ => rfl) (di Z Z Z Z Z (fun _ => rfl) rfl (Int.natCast_nonneg i) (iy hlt) (bz ps) (dv Z Z (fun _ => rfl) (dv Z Z (fun _ => rfl) (dv Z Z (fun _ => rfl) (dv Z Z (fun _ => rfl) (di Z Z Z Z Z (fun _ => rfl) rfl (Int.natCast_nonneg i) (iy hlt) (bz ps) (dv Z Z (fun _ => rfl) (dv Z Z (fun _ => rfl) (dv Z Z (fun _ => rfl) (dv Z Z (fun _ => rfl) (di Z Z Z Z Z (fun _ => rfl) rfl (Int.natCast_nonneg i) (iy hlt) (bz ps) (dv Z Z (fun _ => rfl) (dv Z Z (fun _ => rfl) (dv Z Z (fun _ => rfl) (dv Z Z (fun _ => rfl) (di Z Z Z Z Z (fun _ => rfl) rfl (Int.natCast_nonneg i) (iy hlt) (bz ps) (dv Z Z (fun _ => rfl) (dv Z Z (fun _ => rfl) (dv Z Z (fun _ => rfl) (dc Z Z Z Z (fun _ => rfl) (fun _ => AN) (dn (rs Z Z Z Z Z Z Z (rn (ah (aR (rg 3 rfl (rn (ak ?_)))))))))))))))))))))))))))))))
       refine ⟨i + 1, ⟨hlt, qu hlt hi.2 (by simpa using hm)⟩, by omega, ?_⟩
       (refine ⟨Nat.le_of_ble_eq_true rfl, ?_, ?_, ?_⟩ <;> repeat' (first | exact trivial | rfl | refine ⟨⟨?_, rfl⟩, ?_⟩ | refine ⟨⟨?_, rfl, rfl⟩, ?_⟩ | ((first | refine ei ?_ | refine eh ?_ | refine eb ?_ | refine oh ?_ | skip); first | exact bg hlt hl | (rw [qh hlt]; done))))))))
   ·
    first
    | (cases hc; done)
    | (
     refine aW ?_
     repeat (first | refine cO ?_ | refine bE rfl ?_)
     refine bI (ag (rv Z Z (rs Z Z Z Z Z Z Z (rv Z Z (rn (aT ?_))))))
     repeat (first | refine an ?_ | refine ac ?_)
     refine rr Z Z ?_
     first | exact qf (tX hc) | exact qf (wY (lP hlt (by simpa using hc))) | exact wz (sw (gf hi (bh hc)).1 hpos) (gf hi (bh hc)).2)))
end
def on (a b p : Pt) : Bool := om a.1 a.2 b.1 b.2 p.1 p.2
def cr (a b c d : Pt) : Bool := fO a.1 a.2 b.1 b.2 c.1 c.2 d.1 d.2
def tn (a b p : Pt) : Int := dH a.1 a.2 b.1 b.2 p.1 p.2
def my (p : Pt) : Bool := cA p.1 p.2
theorem FY {a b p : Pt} (ha : my a = true) (hb : my b = true) (hp : my p = true) : on b a p = on a b p := wN ha hb hp
theorem Eo {a b p : Pt} (ha : my a = true) (hb : my b = true) (hp : my p = true) : tn b a p = - tn a b p := nI ha hb hp
theorem G5 {a b c d : Pt} (ha : my a = true) (hb : my b = true) (hc : my c = true) (hd : my d = true) : cr c d a b = cr a b c d := by
 have h1 := zX (a := a.1) (b := a.2) (c := b.1) (d := b.2) (x := c.1) (y := c.2) (x' := d.1) (y' := d.2) ha hb hc hd
 have h2 : cr c d b a = cr c d a b := by
  unfold cr fO jC
  have e1 := FY hb ha hc; have e2 := FY hb ha hd
  have e3 := Eo hb ha hc; have e4 := Eo hb ha hd
  unfold on at e1 e2; unfold tn at e3 e4
  rw [e1, e2, e3, e4, Int.neg_mul_neg, Int.mul_comm (dH c.1 c.2 d.1 d.2 b.1 b.2)]
  generalize om c.1 c.2 d.1 d.2 a.1 a.2 = p, om c.1 c.2 d.1 d.2 b.1 b.2 = q, om b.1 b.2 a.1 a.2 c.1 c.2 = r, om b.1 b.2 a.1 a.2 d.1 d.2 = s
  cases p <;> cases q <;> cases r <;> cases s <;> rfl
 rw [← h2]; exact h1
def lJ : Pt → List Pt → List (Pt × Pt)
 | _, [] => []
 | a, b :: t => (a, b) :: lJ b t
def dZ : List Pt → List (Pt × Pt)
 | [] => []
 | a :: t => lJ a (t ++ [a])
theorem vo {a : Pt} : ∀ {t : List Pt} {e : Pt × Pt}, e ∈ lJ a t → (e.1 = a ∨ e.1 ∈ t) ∧ e.2 ∈ t
 | [], _, h => by cases h
 | b :: t, e, h => by
  rcases List.mem_cons.1 h with rfl | h
  · exact ⟨.inl rfl, by simp⟩
  ·
   have := vo h
   refine ⟨.inr ?_, by simp [this.2]⟩
   rcases this.1 with h | h
   · simp [h]
   · simp [h]
theorem pz {l : List Pt} {e : Pt × Pt} (h : e ∈ dZ l) : e.1 ∈ l ∧ e.2 ∈ l := by
 cases l with
 | nil => cases h
 | cons a t =>
  have := vo h
  simp only [List.mem_append, List.mem_singleton, List.mem_cons] at this ⊢
  rcases this with ⟨h1, h2⟩
  have e0 : ∀ x : Pt, x ∉ ([] : List Pt) := fun _ h => by cases h
  refine ⟨?_, ?_⟩
  ·
   rcases h1 with h | h | h
   · exact .inl h
   · exact .inr h
   ·
    rcases h with h | h
    · exact .inl h
    · exact absurd h (e0 _)
  ·
   rcases h2 with h | h
   · exact .inr h
   ·
    rcases h with h | h
    · exact .inl h
    · exact absurd h (e0 _)
structure pc (l : List Pt) : Prop where
 n3 : 3 ≤ l.length
 n64 : l.length ≤ 64
 may : ∀ p ∈ l, my p = true
 nd : l.Nodup
 nb : ∀ e ∈ dZ l, ∀ f ∈ dZ l, e.2 = f.1 → on e.1 e.2 f.2 = false ∧ on e.2 f.2 e.1 = false
 cx : ∀ e ∈ dZ l, ∀ f ∈ dZ l, e.1 ≠ f.1 → e.1 ≠ f.2 → e.2 ≠ f.1 → e.2 ≠ f.2 → cr e.1 e.2 f.1 f.2 = false
theorem pc.perm {l m : List Pt} (h : pc l) (hp : List.Perm m l) (he : List.Perm (dZ m) (dZ l)) : pc m where
 n3 := by rw [hp.length_eq]; exact h.n3
 n64 := by rw [hp.length_eq]; exact h.n64
 may p hm := h.may p (hp.mem_iff.1 hm)
 nd := hp.nodup_iff.2 h.nd
 nb e he' f hf := h.nb e (he.mem_iff.1 he') f (he.mem_iff.1 hf)
 cx e he' f hf := h.cx e (he.mem_iff.1 he') f (he.mem_iff.1 hf)
def yC (p : Pt) (e : Pt × Pt) : Bool := (decide (e.1.2 > p.2) != decide (e.2.2 > p.2)) && (decide (e.2.2 > e.1.2) == decide (tn e.1 e.2 p > 0))
def y8 (p : Pt) (es : List (Pt × Pt)) : Nat := es.countP (yC p)
def pR (l : List Pt) (p : Pt) : Bool := (dZ l).any (fun e => on e.1 e.2 p) || decide (y8 p (dZ l) % 2 = 1)
theorem CA {a b p : Pt} (ha : my a = true) (hb : my b = true) (hp : my p = true) (hs : (decide (a.2 > p.2) != decide (b.2 > p.2)) = true) (ht : tn a b p = 0) : on a b p = true := by
 unfold on om
 unfold tn at ht
 rw [decide_eq_true ht]
 have hd := ph ha hb hp
 rw [hd] at ht
 have hz : xb a.1 a.2 b.1 b.2 p.1 p.2 = 0 := by unfold Hr at ht; split at ht <;> first | omega | (split at ht <;> omega)
 unfold xb at hz
 have h2 : yU a.2 b.2 p.2 = true := by
  simp only [yU, sP, sT, Bool.and_eq_true, decide_eq_true_eq]
  by_cases h1 : a.2 > p.2 <;> by_cases h2 : b.2 > p.2 <;> simp [h1, h2] at hs <;> omega
 have h1 : yU a.1 b.1 p.1 = true := by
  simp only [yU, sP, sT, Bool.and_eq_true, decide_eq_true_eq]
  generalize hw : b.1 - a.1 = w at hz; generalize hu : p.2 - a.2 = u at hz; generalize hh : b.2 - a.2 = h at hz; generalize hv : p.1 - a.1 = v at hz
  have key : ∀ H U w v : Int, 0 < H → 0 ≤ U → U ≤ H → w * U = H * v → min 0 w ≤ v ∧ v ≤ max 0 w := by
   intro H U w v hH h0 hU he
   by_cases hw0 : 0 ≤ w
   ·
    have a1 : 0 ≤ w * U := Int.mul_nonneg hw0 h0
    have a2 : w * U ≤ w * H := Int.mul_le_mul_of_nonneg_left hU hw0
    rw [he] at a1 a2
    rw [Int.mul_comm w H] at a2
    have b1 : 0 ≤ v := by
     refine Int.le_of_mul_le_mul_left (a := H) ?_ hH; rw [Int.mul_zero]; exact a1
    have b2 : v ≤ w := Int.le_of_mul_le_mul_left a2 hH
    omega
   ·
    have hw1 : 0 ≤ -w := by omega
    have a1 : 0 ≤ (-w) * U := Int.mul_nonneg hw1 h0
    have a2 : (-w) * U ≤ (-w) * H := Int.mul_le_mul_of_nonneg_left hU hw1
    rw [Int.neg_mul, he] at a1 a2
    rw [Int.neg_mul, Int.mul_comm w H] at a2
    have b1 : v ≤ 0 := by
     refine Int.le_of_mul_le_mul_left (a := H) ?_ hH; rw [Int.mul_zero]; omega
    have b2 : w ≤ v := by
     refine Int.le_of_mul_le_mul_left (a := H) ?_ hH; omega
    omega
  by_cases h1 : a.2 > p.2 <;> by_cases h3 : b.2 > p.2 <;> simp [h1, h3] at hs
  ·
   have := key (-h) (-u) w v (by omega) (by omega) (by omega) (by rw [Int.mul_neg, Int.neg_mul]; omega)
   omega
  ·
   have := key h u w v (by omega) (by omega) (by omega) (by omega)
   omega
 rw [h1, h2]; rfl
theorem GD {a b p : Pt} (ha : my a = true) (hb : my b = true) (hp : my p = true) (hno : on a b p = false) : yC p (b, a) = yC p (a, b) := by
 unfold yC
 simp only
 rw [Eo ha hb hp]
 by_cases hs : (decide (a.2 > p.2) != decide (b.2 > p.2)) = true
 ·
  have hne : tn a b p ≠ 0 := fun h => by rw [CA ha hb hp hs h] at hno; cases hno
  have hy : a.2 ≠ b.2 := fun e => by rw [e] at hs; simp at hs
  have e1 : (decide (b.2 > p.2) != decide (a.2 > p.2)) = true := by rw [bne_comm]; exact hs
  rw [hs, e1, Bool.true_and, Bool.true_and]
  have e2 : decide (a.2 > b.2) = !decide (b.2 > a.2) := by rw [Bool.eq_iff_iff]; simp; omega
  have e3 : decide (-tn a b p > 0) = !decide (tn a b p > 0) := by rw [Bool.eq_iff_iff]; simp; omega
  rw [e2, e3]
  cases decide (b.2 > a.2) <;> cases decide (tn a b p > 0) <;> rfl
 ·
  have hs' : (decide (a.2 > p.2) != decide (b.2 > p.2)) = false := by simpa using hs
  have e1 : (decide (b.2 > p.2) != decide (a.2 > p.2)) = false := by rw [bne_comm]; exact hs'
  rw [hs', e1]; rfl
theorem Dm {a b p : Pt} (ha : my a = true) (hb : my b = true) (hp : my p = true) : tn a b p = Hr (xb a.1 a.2 b.1 b.2 p.1 p.2) := ph ha hb hp
def mv (d p : Pt) : Pt := (p.1 + d.1, p.2 + d.2)
theorem vg (d a : Pt) : ∀ t : List Pt, lJ (mv d a) (t.map (mv d)) = (lJ a t).map fun e => (mv d e.1, mv d e.2)
 | [] => rfl
 | b :: t => by simp only [List.map_cons, lJ, vg d b t]
theorem BC (d : Pt) (l : List Pt) : dZ (l.map (mv d)) = (dZ l).map fun e => (mv d e.1, mv d e.2) := by
 cases l with
 | nil => rfl
 | cons a t =>
  show lJ (mv d a) (t.map (mv d) ++ [mv d a]) = _
  have := vg d a (t ++ [a])
  rw [List.map_append] at this
  exact this
theorem xB {a b p d : Pt} (ha : my a = true) (hb : my b = true) (hp : my p = true) (ha' : my (mv d a) = true) (hb' : my (mv d b) = true) (hp' : my (mv d p) = true) : tn (mv d a) (mv d b) (mv d p) = tn a b p := by
 rw [Dm ha hb hp, Dm ha' hb' hp']
 congr 1
 unfold xb mv
 simp only
 rw [show b.1 + d.1 - (a.1 + d.1) = b.1 - a.1 by omega, show p.2 + d.2 - (a.2 + d.2) = p.2 - a.2 by omega, show b.2 + d.2 - (a.2 + d.2) = b.2 - a.2 by omega, show p.1 + d.1 - (a.1 + d.1) = p.1 - a.1 by omega]
theorem vt {a b p d : Pt} (ha : my a = true) (hb : my b = true) (hp : my p = true) (ha' : my (mv d a) = true) (hb' : my (mv d b) = true) (hp' : my (mv d p) = true) : on (mv d a) (mv d b) (mv d p) = on a b p := by
 have ht := xB ha hb hp ha' hb' hp'
 unfold on om tn at *
 rw [ht]
 have e1 := AC a.1 b.1 p.1 d.1; have e2 := AC a.2 b.2 p.2 d.2
 simp only [mv] at *
 rw [e1, e2]
def gp (l : List Pt) (i : Nat) : Pt := l.getD (i % l.length) (0, 0)
theorem jZ {l : List Pt} {i : Nat} (h : i < l.length) : gp l i = l[i] := by
 unfold gp; rw [Nat.mod_eq_of_lt h, List.getD_eq_getElem?_getD, List.getElem?_eq_getElem h]; rfl
theorem jD (l : List Pt) (i : Nat) : gp l (i % l.length) = gp l i := by unfold gp; rw [Nat.mod_mod]
theorem oE {l : List Pt} (h : 0 < l.length) (i : Nat) : gp l i ∈ l := by
 have hlt := Nat.mod_lt i h
 rw [← jD, jZ hlt]; exact List.getElem_mem _
theorem va (a : Pt) : ∀ t : List Pt, (lJ a t).length = t.length
 | [] => rfl
 | b :: t => by simp only [lJ, List.length_cons, va b t]
theorem uX : ∀ (a : Pt) (t : List Pt) (i : Nat) (h : i < t.length), (lJ a t)[i]? = some ((a :: t)[i]'(by simp; omega), t[i])
 | a, b :: t, 0, _ => rfl
 | a, b :: t, i + 1, h => by
  have := uX b t i (by simpa using h)
  simp only [lJ, List.getElem?_cons_succ, this]; rfl
theorem vh (l : List Pt) : (dZ l).length = l.length := by
 cases l with
 | nil => rfl
 | cons a t => show (lJ a (t ++ [a])).length = _; rw [va]; simp
theorem qz {l : List Pt} {i : Nat} (h : i < l.length) : (dZ l)[i]? = some (gp l i, gp l (i + 1)) := by
 cases l with
 | nil => simp at h
 | cons a t =>
  show (lJ a (t ++ [a]))[i]? = _
  have hi : i < (t ++ [a]).length := by simpa using h
  rw [uX a (t ++ [a]) i hi]
  congr 2
  ·
   rw [jZ h]
   by_cases h0 : i = 0
   · subst h0; rfl
   ·
    obtain ⟨j, rfl⟩ : ∃ j, i = j + 1 := ⟨i - 1, by omega⟩
    simp only [List.getElem_cons_succ]
    rw [List.getElem_append_left (by simpa using h)]
  ·
   by_cases hl : i + 1 < (a :: t).length
   ·
    rw [jZ hl]
    simp only [List.getElem_cons_succ]
    rw [List.getElem_append_left (by simpa using hl)]
   ·
    have e : i + 1 = (a :: t).length := by simp at h hl ⊢; omega
    have e2 : i = t.length := by simpa using e
    unfold gp
    rw [e, Nat.mod_self]
    subst e2
    simp
theorem r8 {l : List Pt} {e : Pt × Pt} (h : e ∈ dZ l) : ∃ i, i < l.length ∧ e = (gp l i, gp l (i + 1)) := by
 obtain ⟨i, hi⟩ := List.mem_iff_getElem?.1 h
 have hl : i < l.length := by rw [← vh]; exact (List.getElem?_eq_some_iff.1 hi).1
 rw [qz hl] at hi
 exact ⟨i, hl, (Ke hi).symm⟩
theorem pm {l : List Pt} {i : Nat} (h : i < l.length) : (gp l i, gp l (i + 1)) ∈ dZ l := List.mem_iff_getElem?.2 ⟨i, qz h⟩
theorem qo : ∀ {l : List Pt}, l.Nodup → ∀ {i j : Nat} (hi : i < l.length) (hj : j < l.length), l[i] = l[j] → i = j
 | [], _, i, _, hi, _, _ => by simp at hi
 | a :: l, h, i, j, hi, hj, e => by
  rw [List.nodup_cons] at h
  cases i with
  | zero =>
   cases j with
   | zero => rfl
   | succ j =>
    simp only [List.getElem_cons_zero, List.getElem_cons_succ] at e
    exact absurd (e ▸ List.getElem_mem _) h.1
  | succ i =>
   cases j with
   | zero =>
    simp only [List.getElem_cons_zero, List.getElem_cons_succ] at e
    exact absurd (e ▸ List.getElem_mem _) h.1
   | succ j =>
    simp only [List.getElem_cons_succ] at e
    rw [qo h.2 (by simpa using hi) (by simpa using hj) e]
theorem zw {l : List Pt} (h : l.Nodup) (h0 : 0 < l.length) {i j : Nat} (e : gp l i = gp l j) : i % l.length = j % l.length := by
 have hi := Nat.mod_lt i h0; have hj := Nat.mod_lt j h0
 rw [← jD l i, ← jD l j, jZ hi, jZ hj] at e
 exact qo h hi hj e
theorem Cz : ∀ {l : List Pt}, (∀ i (h : i < l.length), l[i] ∉ l.take i) → l.Nodup := by
 intro l h
 rw [List.nodup_iff_pairwise_ne, List.pairwise_iff_getElem]
 intro i j hi hj hij e
 refine h j hj ?_
 rw [← e]
 exact List.mem_take_iff_getElem.2 ⟨i, by omega, rfl⟩
theorem Ad {l : List Pt} (h : l.Nodup) (i : Nat) (hi : i < l.length) : l[i] ∉ l.take i := by
 intro hm
 obtain ⟨j, hj, e⟩ := List.mem_take_iff_getElem.1 hm
 have := qo h (by omega) hi e
 omega
def nbI (l : List Pt) (i : Nat) : Bool := on (gp l i) (gp l (i + 1)) (gp l (i + 2)) || on (gp l (i + 1)) (gp l (i + 2)) (gp l i)
def crI (l : List Pt) (i k : Nat) : Bool := cr (gp l i) (gp l (i + 1)) (gp l k) (gp l (k + 1))
theorem ua {i n : Nat} (h : i < n) : (i + 1) % n = if i + 1 = n then 0 else i + 1 := by
 split
 · rename_i e; rw [e, Nat.mod_self]
 · exact Nat.mod_eq_of_lt (by omega)
theorem vD {l : List Pt} (h3 : 3 ≤ l.length) (h64 : l.length ≤ 64) (hm : ∀ p ∈ l, my p = true) (hd : l.Nodup) (hnb : ∀ i, i < l.length → nbI l i = false)
  (hcx : ∀ i k, i + 2 ≤ k → k < l.length → (k + 1) % l.length ≠ i → crI l i k = false) : pc l where
 n3 := h3
 n64 := h64
 may := hm
 nd := hd
 nb e he f hf hef := by
  obtain ⟨i, hi, rfl⟩ := r8 he
  obtain ⟨j, hj, rfl⟩ := r8 hf
  have hmod := zw hd (by omega) hef
  have e2 : gp l (j + 1) = gp l (i + 2) := by
   rw [← jD l (j + 1), ← jD l (i + 2), Nat.add_mod j, ← hmod, ← Nat.add_mod]
  have := hnb i hi
  simp only [nbI, Bool.or_eq_false_iff] at this
  simp only [e2]
  exact this
 cx e he f hf h1 h2 h3' h4 := by
  obtain ⟨i, hi, rfl⟩ := r8 he
  obtain ⟨k, hk, rfl⟩ := r8 hf
  simp only at h1 h2 h3' h4 ⊢
  have hne : i ≠ k := fun e => h1 (by rw [e])
  have g : ∀ j, my (gp l j) = true := fun j => hm _ (oE (by omega) j)
  have a1 : (k + 1) % l.length ≠ i := fun e => h2 (by rw [← jD l (k + 1), e])
  have a2 : (i + 1) % l.length ≠ k := fun e => h3' (by rw [← jD l (i + 1), e])
  by_cases hlt : i < k
  ·
   refine hcx i k ?_ hk a1
   have : i + 1 ≠ k := fun e => a2 (by rw [e]; exact Nat.mod_eq_of_lt hk)
   omega
  ·
   have := hcx k i (by
    have : k + 1 ≠ i := fun e => a1 (by rw [e]; exact Nat.mod_eq_of_lt hi)
    omega) hi a2
   unfold crI at this
   rw [G5 (g _) (g _) (g _) (g _)] at this
   exact this
theorem pc.nbI {l : List Pt} (h : pc l) {i : Nat} (hi : i < l.length) : Go.Proofs.YtbkomicjhfldmaaGreatDoor.nbI l i = false := by
 have h0 : 0 < l.length := by omega
 have he := pm hi
 have hf := pm (Nat.mod_lt (i + 1) h0)
 rw [jD] at hf
 have e2 : gp l ((i + 1) % l.length + 1) = gp l (i + 2) := by
  rw [← jD l (_ + 1), ← jD l (i + 2), Nat.add_mod, Nat.mod_mod, ← Nat.add_mod]
 rw [e2] at hf
 have := h.nb _ he _ hf rfl
 simp only [Go.Proofs.YtbkomicjhfldmaaGreatDoor.nbI, Bool.or_eq_false_iff]
 exact this
theorem pc.crI {l : List Pt} (h : pc l) {i k : Nat} (hi : i < l.length) (hk : k < l.length) (h1 : k ≠ i) (h2 : k ≠ (i + 1) % l.length) (h3 : i ≠ (k + 1) % l.length) : Go.Proofs.YtbkomicjhfldmaaGreatDoor.crI l i k = false := by
 have h0 : 0 < l.length := by omega
 have ne : ∀ {a b : Nat}, a < l.length → b < l.length → a ≠ b → gp l a ≠ gp l b := fun ha hb hab e => by
  have := zw h.nd h0 e
  rw [Nat.mod_eq_of_lt ha, Nat.mod_eq_of_lt hb] at this
  exact hab this
 have m1 : ∀ j, gp l (j + 1) = gp l ((j + 1) % l.length) := fun j => (jD l (j + 1)).symm
 have a1 : gp l i ≠ gp l k := ne hi hk (Ne.symm h1)
 have a2 : gp l i ≠ gp l (k + 1) := by rw [m1 k]; exact ne hi (Nat.mod_lt _ h0) h3
 have a3 : gp l (i + 1) ≠ gp l k := by rw [m1 i]; exact ne (Nat.mod_lt _ h0) hk (Ne.symm h2)
 have a4 : gp l (i + 1) ≠ gp l (k + 1) := by
  rw [m1 i, m1 k]
  refine ne (Nat.mod_lt _ h0) (Nat.mod_lt _ h0) fun e => ?_
  rw [ua hi, ua hk] at e
  by_cases c1 : i + 1 = l.length
  ·
   by_cases c2 : k + 1 = l.length
   · omega
   · rw [if_pos c1, if_neg c2] at e; omega
  ·
   by_cases c2 : k + 1 = l.length
   · rw [if_neg c1, if_pos c2] at e; omega
   · rw [if_neg c1, if_neg c2] at e; omega
 exact h.cx (gp l i, gp l (i + 1)) (pm hi) (gp l k, gp l (k + 1)) (pm hk) a1 a2 a3 a4
def bT (l : List Pt) : Bool := decide (3 ≤ l.length) && decide (l.length ≤ 64) && l.all my && decide l.Nodup && (List.range l.length).all (fun i => !nbI l i) &&
 (List.range l.length).all fun i => (List.range l.length).all fun k => decide (k < i + 2) || decide ((k + 1) % l.length = i) || !crI l i k
theorem iN (l : List Pt) : bT l = true ↔ pc l := by
 unfold bT
 simp only [Bool.and_eq_true, decide_eq_true_eq, List.all_eq_true, List.mem_range, Bool.not_eq_true', Bool.or_eq_true]
 constructor
 ·
  rintro ⟨⟨⟨⟨⟨h1, h2⟩, h3⟩, h4⟩, h5⟩, h6⟩
  refine vD h1 h2 h3 h4 h5 fun i k a b c => ?_
  rcases h6 i (by omega) k b with (h | h) | h
  · omega
  · exact absurd h c
  · exact h
 ·
  intro h
  refine ⟨⟨⟨⟨⟨h.n3, h.n64⟩, h.may⟩, h.nd⟩, fun i hi => h.nbI hi⟩, fun i hi k hk => ?_⟩
  by_cases c1 : k < i + 2
  · exact .inl (.inl c1)
  ·
   by_cases c2 : (k + 1) % l.length = i
   · exact .inl (.inr c2)
   · exact .inr (h.crI hi hk (by omega) (by rw [ua hi]; split <;> omega) (Ne.symm c2))
theorem it {l : List Pt} (h : ¬ pc l) : bT l = false := by
 cases hb : bT l with
 | false => rfl
 | true => exact absurd ((iN l).1 hb) h
theorem pJ {l : List Pt} (h0 : 0 < l.length) (i : Nat) : (rows l)[(((i % l.length : Nat) : Int)).toNat]? = some [.int .i64 (gp l i).1, .int .i64 (gp l i).2] := by
 rw [iy (Nat.mod_lt i h0), ← jD l i, jZ (Nat.mod_lt i h0)]
theorem iT {l : List Pt} {i : Nat} (h : i < l.length) : (rows l)[((i : Int)).toNat]? = some [.int .i64 (gp l i).1, .int .i64 (gp l i).2] := by
 rw [iy h, jZ h]
theorem fx (l : List Pt) (i : Nat) : Int.tmod (i : Int) ((rows l).length : Int) = ((i % l.length : Nat) : Int) := by rw [eS]; rfl
theorem kZ {l : List Pt} (h0 : 0 < l.length) : ((rows l).length : Int) ≠ 0 := by rw [eS]; omega
theorem rE {i k : Nat} (h : i + k ≤ maxLen) : IntKind.wrap .i64 ((i : Int) + (k : Int)) = ((i + k : Nat) : Int) := by
 have := gZ (n := (i : Int) + (k : Int)) (by unfold maxLen at h; omega)
 rw [W] at this; rw [this]; rfl
def xL (f : Pt → Bool) (l : List Pt) : Int := match l.findIdx? f with
 | some i => (i : Int)
 | none => -1
theorem yM {f : Pt → Bool} : ∀ {l : List Pt} {i : Nat} (h : i < l.length), (l.take i).any f = false → f (l[i]) = true → l.findIdx? f = some i
 | a :: l, 0, _, _, hf => by simp only [List.getElem_cons_zero] at hf; simp [List.findIdx?_cons, hf]
 | a :: l, i + 1, h, hn, hf => by
  simp only [List.take_succ_cons, List.any_cons, Bool.or_eq_false_iff] at hn
  simp only [List.getElem_cons_succ] at hf
  have := yM (l := l) (i := i) (by simpa using h) hn.2 hf
  simp [List.findIdx?_cons, hn.1, this]
theorem rJ {f : Pt → Bool} {l : List Pt} {i : Nat} (h : i < l.length) (hn : (l.take i).any f = false) (hf : f (gp l i) = true) : xL f l = i := by
 unfold xL; rw [jZ h] at hf; rw [yM h hn hf]
theorem mV {f : Pt → Bool} {l : List Pt} (h : l.any f = false) : xL f l = -1 := by
 unfold xL
 have : l.findIdx? f = none := by
  rw [List.findIdx?_eq_none_iff]; intro x hx; simpa using List.any_eq_false.1 h x hx
 rw [this]
theorem CM (f : Pt → Bool) (l : List Pt) : decide (xL f l ≥ 0) = l.any f := by
 cases h : l.any f with
 | false => rw [mV h]; rfl
 | true =>
  unfold xL
  cases hf : l.findIdx? f with
  | some i => simp
  | none =>
   rw [List.findIdx?_eq_none_iff] at hf
   obtain ⟨x, hx, hx2⟩ := List.any_eq_true.1 h
   have := hf x hx; simp [hx2] at this
theorem yh {f : Pt → Bool} {l : List Pt} {i : Nat} (h : i < l.length) (hn : (l.take i).any f = false) (hf : f (gp l i) = false) : (l.take (i + 1)).any f = false := by
 rw [List.take_add_one, List.getElem?_eq_getElem h, List.any_append, hn]
 rw [jZ h] at hf; simp [hf]
theorem sc {f : Pt → Bool} {l : List Pt} {i : Nat} (hn : i ≤ l.length ∧ (l.take i).any f = false) (h : ¬ i < l.length) : l.any f = false := by
 have : i = l.length := by omega
 subst this; simpa using hn.2
def rT (a b : Pt) : Bool := a.1 == b.1 && a.2 == b.2
theorem w6 {a b : Pt} : rT a b = true ↔ a = b := by
 unfold rT
 simp only [Bool.and_eq_true, beq_iff_eq]
 exact ⟨fun h => Prod.ext h.1 h.2, fun h => by rw [h]; exact ⟨rfl, rfl⟩⟩
def ue (p : Pt) : Bool := !my p
theorem xr (l : List Pt) : l.any ue = !l.all my := by
 induction l with
 | nil => rfl
 | cons a l ih => simp only [List.any_cons, List.all_cons, ih, ue, Bool.not_and]
section
attribute [local irreducible] cg aM DP ai aP Decidable.decide
theorem pf {l : List Pt} {i : Nat} (h0 : 0 < l.length) (hi : i + 1 ≤ maxLen) : ai Tryz.prog 120 [.sl (rows l), .int .i64 ((i : Nat) : Int)] (· = .agg [.int .i64 (gp l (i + 1)).1, .int .i64 (gp l (i + 1)).2]) := by
 refine cf Tryz.func120 ?_
 refine ag (ra Z Z Z (rn (ag (rg 2 rfl (nU rfl (mB rfl (rE (k := 1) hi)) (rg 2 rfl (nU rfl (lb Z Z (kZ h0) (fx l (i + 1))) (ri Z Z Z Z Z Z (Int.natCast_nonneg _) (pJ h0 _) (bz l) (rv Z Z (rs Z Z Z Z Z Z Z (rn (aT ?_))))))))))))
 repeat (first | refine an ?_ | refine ac ?_)
 refine rr Z Z ?_
 first | rfl | (simp [*]; done) | (simp []; done) | (simp [*]; done) | (simp_all []; done)
end
section
attribute [local irreducible] cg aM DP ai aP Decidable.decide
theorem Fe {a b c : Pt} : ai Tryz.prog 119 [.agg [.int .i64 (a).1, .int .i64 (a).2], .agg [.int .i64 (b).1, .int .i64 (b).2], .agg [.int .i64 (c).1, .int .i64 (c).2]] (· = .bool (on a b c || on b c a)) := by
 refine cf Tryz.func119 ?_
 refine ag (rb Z Z (rb Z Z (rb Z Z (rv Z Z (rn (ag (rg 3 rfl (bt Z Z Z tS (rv Z Z ?_)))))))))
 (iterate 3 all_goals (first | refine d6 (rv Z Z ?_) | refine d7 ?_ | refine d8 ?_ | refine gs Z Z Z Z Z (fun hg => rv Z Z ?_) fun hg => ?_)) <;> (
 (first | refine d6 (bt Z Z Z tS (?_)) | refine d7 ?_ | refine d8 ?_ | refine gs Z Z Z Z Z (fun hg => bt Z Z Z tS (?_)) fun hg => ?_) <;> (
 refine rg 2 rfl (rn (aT ?_))
 repeat (first | refine an ?_ | refine ac ?_)
 refine rr Z Z ?_
 first | rfl | (simp [*]; done) | (simp [on]; done) | (simp [on, *]; done) | (simp_all [on]; done)))
end
section
attribute [local irreducible] cg aM DP ai aP Decidable.decide
theorem Bx {p : Pt} : ai Tryz.prog 118 [.agg [.int .i64 (p).1, .int .i64 (p).2]] (· = .bool (ue p)) := by
 refine cf Tryz.func118 ?_
 refine ag (rb Z Z (rv Z Z (rn (ag (rv Z Z (bt Z Z Z jz (rg 2 rfl (rn (aT ?_)))))))))
 repeat (first | refine an ?_ | refine ac ?_)
 refine rr Z Z ?_
 first | rfl | (simp [*]; done) | (simp [ue, my]; done) | (simp [ue, my, *]; done) | (simp_all [ue, my]; done)
end
section
attribute [local irreducible] cg aM DP ai aP Decidable.decide
theorem Ih {l : List Pt} (hl : l.length ≤ maxLen) : ai Tryz.prog 169 [.sl (rows l), .fn 118 []] (· = .int .i64 (xL ue l)) := by
 refine cf Tryz.func169 ?_
 refine ag (rv Z Z (rn (aS (ag (rg 3 rfl (rn (aB ?_)))))))
 refine eQ (ι := Nat) (fun i => ⟨[(0, .sl (rows l)), (1, .fn 118 []), (6, .sl (rows l)), (7, .int .i64 ((rows l).length : Int)), (8, .int .i64 (i : Int))], [], [], 0⟩) (fun i => i ≤ l.length ∧ (l.take i).any ue = false) (fun i => l.length - i) (0) (⟨Nat.zero_le _, rfl⟩) ?_ (fun _ => Nat.zero_le _) (fun i hi => ?_)
 · (refine ⟨Nat.le_of_ble_eq_true rfl, ?_, ?_, ?_⟩ <;> repeat' (first | exact trivial | rfl | refine ⟨⟨?_, rfl⟩, ?_⟩ | refine ⟨⟨?_, rfl, rfl⟩, ?_⟩ | ((first | refine ei ?_ | refine eh ?_ | refine eb ?_ | refine oh ?_ | skip); exact bg hlt hl)))
 refine ag (rv Z Z (rn (aS ?_)))
 refine fB rfl (fun hc => ?_) (fun hc => ?_)
 ·
  first
  | (cases hc; done)
  | (
   refine aK (aS (aB (aS ?_)))
   (have hlt := jE hc) <;> (
   refine aR (rg 2 rfl (rn (ag (rg 3 rfl (ri Z Z Z Z Z Z (Int.natCast_nonneg i) (iT hlt) (bz l) (rv Z Z (bt Z Z Z Bx (rn (ak ?_)))))))))
   refine fB rfl (fun hc => ?_) (fun hc => ?_)
   ·
    first
    | (cases hc; done)
    | (
     refine ag (rg 2 rfl (rn (aT ?_)))
     repeat (first | refine an ?_ | refine ac ?_)
     refine rr Z Z ?_
     first | exact ei (rJ hlt hi.2 (by assumption)).symm | exact ei (mV (sc hi (bh hc))).symm)
   ·
    first
    | (cases hc; done)
    | (
     refine aK (ah (aR (rg 2 rfl (rn (ak ?_)))))
     refine ⟨i + 1, ⟨hlt, yh hlt hi.2 (by assumption)⟩, by omega, ?_⟩
     (refine ⟨Nat.le_of_ble_eq_true rfl, ?_, ?_, ?_⟩ <;> repeat' (first | exact trivial | rfl | refine ⟨⟨?_, rfl⟩, ?_⟩ | refine ⟨⟨?_, rfl, rfl⟩, ?_⟩ | ((first | refine ei ?_ | refine eh ?_ | refine eb ?_ | refine oh ?_ | skip); exact bg hlt hl))))))
 ·
  first
  | (cases hc; done)
  | (
   refine aW ?_
   repeat (first | refine cO ?_ | refine bE rfl ?_)
   refine bI (ag (rv Z Z (rn (aT ?_))))
   repeat (first | refine an ?_ | refine ac ?_)
   refine rr Z Z ?_
   first | exact ei (rJ hlt hi.2 (by assumption)).symm | exact ei (mV (sc hi (bh hc))).symm)
end
section
attribute [local irreducible] cg aM DP ai aP Decidable.decide
theorem It {l : List Pt} (hl : l.length ≤ maxLen) : ai Tryz.prog 117 [.sl (rows l), .fn 118 []] (· = .bool (l.any ue)) := by
 refine cf Tryz.func117 ?_
 refine ag (rv Z Z (rn (ag (rg 2 rfl (bt Z Z Z (Ih hl) (rg 2 rfl (rn (aT ?_))))))))
 repeat (first | refine an ?_ | refine ac ?_)
 refine rr Z Z ?_
 exact eb (CM _ _)
end
section
attribute [local irreducible] cg aM DP ai aP Decidable.decide
theorem Jp {l : List Pt} {v : Pt} (hl : l.length ≤ maxLen) : ai Tryz.prog 170 [.sl (rows l), .agg [.int .i64 (v).1, .int .i64 (v).2]] (· = .int .i64 (xL (rT v) l)) := by
 refine cf Tryz.func170 ?_
 refine ag (rb Z Z (rv Z Z (rn (aS (ag (rg 3 rfl (rn (aB ?_))))))))
 refine eQ (ι := Nat) (fun i => ⟨[(0, .sl (rows l)), (3, .ptr 0 0), (6, .sl (rows l)), (7, .int .i64 ((rows l).length : Int)), (8, .int .i64 (i : Int))], [(0, 0, .int .i64 v.1), (0, 1, .int .i64 v.2)], [], 1⟩) (fun i => i ≤ l.length ∧ (l.take i).any (rT v) = false) (fun i => l.length - i) (0) (⟨Nat.zero_le _, rfl⟩) ?_ (fun _ => Nat.zero_le _) (fun i hi => ?_)
 · (refine ⟨Nat.le_of_ble_eq_true rfl, ?_, ?_, ?_⟩ <;> repeat' (first | exact trivial | rfl | refine ⟨⟨?_, rfl⟩, ?_⟩ | refine ⟨⟨?_, rfl, rfl⟩, ?_⟩ | ((first | refine ei ?_ | refine eh ?_ | refine eb ?_ | refine oh ?_ | skip); exact bg hlt hl)))
 refine ag (rv Z Z (rn (aS ?_)))
 refine fB rfl (fun hc => ?_) (fun hc => ?_)
 ·
  first
  | (cases hc; done)
  | (
   refine aK (aS (aB (aS ?_)))
   (have hlt := jE hc) <;> (
   refine aR (rg 2 rfl (rn (aS (mw 6 Tryz.mix (dv Z Z (fun _ => rfl) (dv Z Z (fun _ => rfl) (dv Z Z (fun _ => rfl) (di Z Z Z Z Z (fun _ => rfl) rfl (Int.natCast_nonneg i) (iT hlt) (bz l) (dv Z Z (fun _ => rfl) (dv Z Z (fun _ => rfl) (dn (rn (ak ?_)))))))))))))
   refine fB rfl (fun hc => ?_) (fun hc => ?_)
   ·
    first
    | (cases hc; done)
    | (
     refine ag (rg 2 rfl (rn (aT ?_)))
     repeat (first | refine an ?_ | refine ac ?_)
     refine rr Z Z ?_
     first | exact ei (rJ hlt hi.2 (by first | assumption | simpa [rT] using hc)).symm | exact ei (mV (sc hi (bh hc))).symm | trace_state)
   ·
    first
    | (cases hc; done)
    | (
     refine aK (ah (aR (rg 2 rfl (rn (ak ?_)))))
     refine ⟨i + 1, ⟨hlt, yh hlt hi.2 (by first | assumption | simpa [rT] using hc)⟩, by omega, ?_⟩
     (refine ⟨Nat.le_of_ble_eq_true rfl, ?_, ?_, ?_⟩ <;> repeat' (first | exact trivial | rfl | refine ⟨⟨?_, rfl⟩, ?_⟩ | refine ⟨⟨?_, rfl, rfl⟩, ?_⟩ | ((first | refine ei ?_ | refine eh ?_ | refine eb ?_ | refine oh ?_ | skip); exact bg hlt hl))))))
 ·
  first
  | (cases hc; done)
  | (
   refine aW ?_
   repeat (first | refine cO ?_ | refine bE rfl ?_)
   refine bI (ag (rv Z Z (rn (aT ?_))))
   repeat (first | refine an ?_ | refine ac ?_)
   refine rr Z Z ?_
   first | exact ei (rJ hlt hi.2 (by first | assumption | simpa [rT] using hc)).symm | exact ei (mV (sc hi (bh hc))).symm | trace_state)
end
section
attribute [local irreducible] cg aM DP ai aP Decidable.decide
theorem Gg {l : List Pt} {v : Pt} (hl : l.length ≤ maxLen) : ai Tryz.prog 121 [.sl (rows l), .agg [.int .i64 (v).1, .int .i64 (v).2]] (· = .bool (l.any (rT v))) := by
 refine cf Tryz.func121 ?_
 refine ag (rb Z Z (rv Z Z (rn (ag (rg 2 rfl (bt Z Z Z (Jp hl) (rg 2 rfl (rn (aT ?_)))))))))
 repeat (first | refine an ?_ | refine ac ?_)
 refine rr Z Z ?_
 exact eb (CM _ _)
end
theorem uC {l : List Pt} (h : decide (((rows l).length : Int) < 3) = true) : AV.bool false = AV.bool (bT l) := by
 rw [it]; intro hs; have := hs.n3; rw [eS] at h; simp at h; omega
theorem oq {l : List Pt} (h : decide (((rows l).length : Int) > 64) = true) : AV.bool false = AV.bool (bT l) := by
 rw [it]; intro hs; have := hs.n64; rw [eS] at h; simp at h; omega
theorem vR {l : List Pt} (h : l.any ue = true) : AV.bool false = AV.bool (bT l) := by
 rw [it]; intro hs; rw [xr, Bool.not_eq_true', ← Bool.not_eq_true] at h; exact h (List.all_eq_true.2 hs.may)
def nT (l : List Pt) : Prop := 3 ≤ l.length ∧ l.length ≤ 64 ∧ l.all my = true
theorem Fv {l : List Pt} (h1 : decide (((rows l).length : Int) < 3) = false) (h2 : decide (((rows l).length : Int) > 64) = false) (h3 : l.any ue = false) : nT l := by
 rw [eS] at h1 h2; rw [xr] at h3; simp at h1 h2
 exact ⟨by omega, by omega, by simpa using h3⟩
theorem vw (l : List Pt) (i : Nat) : ((rows l).take i).drop 0 = rows (l.take i) := by simp [rows, List.map_take]
def I5 (l : List Pt) (i j : Nat) : Prop := (j + 1) % l.length = i ∨ crI l i j = false
def IL (l : List Pt) (i k : Nat) : Prop := i + 2 ≤ k ∧ ∀ j, i + 2 ≤ j → j < k → j < l.length → I5 l i j
def JW (l : List Pt) (j : Nat) : Prop := nbI l j = false ∧ (l.take j).any (rT (gp l j)) = false ∧ ∀ k, j + 2 ≤ k → k < l.length → I5 l j k
def E2 (l : List Pt) (i : Nat) : Prop := i ≤ l.length ∧ ∀ j, j < i → JW l j
theorem Ii (l : List Pt) (i : Nat) : IL l i (i + 2) := ⟨Nat.le_refl _, fun j h1 h2 => by omega⟩
theorem DE {l : List Pt} {i k : Nat} (h : IL l i k) (hc : I5 l i k) : IL l i (k + 1) :=
 ⟨by have := h.1; omega, fun j h1 h2 h3 => by
  by_cases e : j = k
  · subst e; exact hc
  · exact h.2 j h1 (by omega) h3⟩
theorem Cf {l : List Pt} {i k : Nat} (h : E2 l i) (hl : i < l.length) (h1 : nbI l i = false) (h2 : (l.take i).any (rT (gp l i)) = false) (hk : IL l i k) (he : ¬ k < l.length) : E2 l (i + 1) :=
 ⟨hl, fun j hj => by
  by_cases e : j = i
  · subst e; exact ⟨h1, h2, fun m a b => hk.2 m a (by omega) b⟩
  · exact h.2 j (by omega)⟩
theorem uY {l : List Pt} (h : ∀ j, j < l.length → (l.take j).any (rT (gp l j)) = false) : l.Nodup := Cz fun i hi hm => by
 have := h i hi
 rw [List.any_eq_false] at this
 refine this _ hm ?_
 rw [jZ hi, w6]
theorem rS {l : List Pt} {i : Nat} (hb : nT l) (h : E2 l i) (he : ¬ i < l.length) : AV.bool true = AV.bool (bT l) := by
 have e : i = l.length := by have := h.1; omega
 subst e
 have : bT l = true := (iN l).2 (vD hb.1 hb.2.1 (List.all_eq_true.1 hb.2.2) (uY fun j hj => (h.2 j hj).2.1) (fun i hi => (h.2 i hi).1) fun i k h1 h2 h3 => by
  rcases (h.2 i (by omega)).2.2 k h1 h2 with h | h
  · exact absurd h h3
  · exact h)
 rw [this]
theorem qp {l : List Pt} {i : Nat} (hl : i < l.length) (h : nbI l i = true) : AV.bool false = AV.bool (bT l) := by
 rw [it]; intro hs; rw [hs.nbI hl] at h; cases h
theorem rY {l : List Pt} {i : Nat} (hl : i < l.length) (h : (l.take i).any (rT (gp l i)) = true) : AV.bool false = AV.bool (bT l) := by
 rw [it]; intro hs
 obtain ⟨x, hx, he⟩ := List.any_eq_true.1 h
 rw [w6] at he
 subst he
 rw [jZ hl] at hx
 exact Ad hs.nd i hl hx
theorem wK {l : List Pt} {i k : Nat} (hl : i < l.length) (hk : k < l.length) (hik : i + 2 ≤ k) (hn : ((((k + 1) % l.length : Nat) : Int) != (i : Int)) = true) (h : crI l i k = true) : AV.bool false = AV.bool (bT l) := by
 rw [it]; intro hs
 have hn' : (k + 1) % l.length ≠ i := fun e => by rw [e] at hn; simp at hn
 rw [hs.crI hl hk (by omega) (by rw [Nat.mod_eq_of_lt (by omega)]; omega) (Ne.symm hn')] at h; cases h
theorem G1 {l : List Pt} {i k : Nat} (hn : ((((k + 1) % l.length : Nat) : Int) != (i : Int)) = false) : I5 l i k := .inl (Int.ofNat.inj (bne_eq_false_iff_eq.1 hn))
theorem CE {l : List Pt} {i : Nat} (h : l.length ≤ maxLen) : (l.take i).length ≤ maxLen := by rw [List.length_take]; omega
section
attribute [local irreducible] cg aM DP ai aP Decidable.decide
theorem ta {l : List Pt} (hl : l.length ≤ maxLen) : ai Tryz.prog 76 [.sl (rows l)] (· = .bool (bT l)) := by
 refine cf Tryz.func76 ?_
 refine ag (rv Z Z (rn (aS (ag (rg 4 rfl ?_)))))
 (iterate 3 all_goals (first | refine d6 (rv Z Z ?_) | refine d7 ?_ | refine d8 ?_ | refine gs Z Z Z Z Z (fun hg => rv Z Z ?_) fun hg => ?_)) <;> (
 refine rg 2 rfl ?_
 ((first | refine d6 (rv Z Z ?_) | refine d7 ?_ | refine d8 ?_ | refine gs Z Z Z Z Z (fun hg => rv Z Z ?_) fun hg => ?_)) <;> (
 (first | refine d6 (bt Z Z Z (It hl) (?_)) | refine d7 ?_ | refine d8 ?_ | refine gs Z Z Z Z Z (fun hg => bt Z Z Z (It hl) (?_)) fun hg => ?_) <;> (
 refine rv Z Z (rn (ak ?_))
 refine fB rfl (fun hc => ?_) (fun hc => ?_)
 ·
  first
  | (cases hc; done)
  | (
   refine ag (rv Z Z (rn (aT ?_)))
   repeat (first | refine an ?_ | refine ac ?_)
   refine rr Z Z ?_
   first | exact uC (by assumption) | exact oq (by assumption) | exact vR (by assumption) | exact wK hlt hkl hk.1 (by assumption) (by assumption) | exact qp hlt (by assumption) | exact rY hlt (by assumption) | exact rS hb hi (bh hc) | trace_state)
 ·
  first
  | (cases hc; done)
  | (
   refine aK (aS (aS ?_))
   (have hb := Fv (by assumption) (by assumption) (by assumption)) <;> (
   refine aR (rg 3 rfl (rn (aB ?_)))
   refine eQ (ι := Nat) (fun i => ⟨[(0, .sl (rows l)), (2, .bool false), (18, .sl (rows l)), (19, .int .i64 ((rows l).length : Int)), (20, .int .i64 (i : Int))], [], [], 0⟩) (fun i => E2 l i) (fun i => l.length - i) (0) (⟨Nat.zero_le _, fun j hj => by omega⟩) ?_ (fun _ => Nat.zero_le _) (fun i hi => ?_)
   · (refine ⟨Nat.le_of_ble_eq_true rfl, ?_, ?_, ?_⟩ <;> repeat' (first | exact trivial | rfl | refine ⟨⟨?_, rfl⟩, ?_⟩ | refine ⟨⟨?_, rfl, rfl⟩, ?_⟩ | ((first | refine ei ?_ | refine eh ?_ | refine eb ?_ | refine oh ?_ | skip); exact bg hlt hl)))
   refine ag (rv Z Z (rn (aS ?_)))
   refine fB rfl (fun hc => ?_) (fun hc => ?_)
   ·
    first
    | (cases hc; done)
    | (
     refine aK (aS (aB (aS ?_)))
     (have hlt := jE hc) <;> (
     refine aR (rv Z Z (ri Z Z Z Z Z Z (Int.natCast_nonneg i) (iT hlt) (bz l) (rv Z Z (ra Z Z Z (rv Z Z (rs Z Z Z Z Z Z Z (rn (aS (aS (mw 16 Tryz.mix (dv Z Z (fun _ => rfl) (dv Z Z (fun _ => rfl) (dv Z Z (fun _ => rfl) (dc Z Z Z Z (fun _ => rfl) (fun _ => (pf (by omega) (by have := hb.2.1; unfold maxLen; omega))) (dv Z Z (fun _ => rfl) (dv Z Z (fun _ => rfl) (Iv Z Z (fun _ => mB rfl (rE (k := 1) (by have := hb.2.1; unfold maxLen; omega))) (dc Z Z Z Z (fun _ => rfl) (fun _ => (pf (by omega) (by have := hb.2.1; unfold maxLen; omega))) (dc Z Z Z Z (fun _ => rfl) (fun _ => Fe) (dv Z Z (fun _ => rfl) ?_))))))))))))))))))))
     (first | refine dv Z Z (fun _ => rfl) ?_ | refine bB Z Z ?_ | (refine ds Z Z (fun hg => ?_) (fun hg => ?_) <;> first | refine dv Z Z (fun _ => rfl) ?_ | refine bB Z Z ?_)) <;> (
     (first | refine dv Z Z (fun _ => rfl) ?_ | refine bB Z Z ?_ | (refine ds Z Z (fun hg => ?_) (fun hg => ?_) <;> first | refine dv Z Z (fun _ => rfl) ?_ | refine bB Z Z ?_)) <;> (
     (first | refine dV Z Z (fun m => DM (zQ (l := 0) (h := i) Z Z Z Z Z ⟨_, rfl⟩ (Nat.zero_le _) (by rw [eS]; omega) (bz l)) (nQ (vw l i))) ?_ | refine bB Z Z ?_ | (refine ds Z Z (fun hg => ?_) (fun hg => ?_) <;> first | refine dV Z Z (fun m => DM (zQ (l := 0) (h := i) Z Z Z Z Z ⟨_, rfl⟩ (Nat.zero_le _) (by rw [eS]; omega) (bz l)) (nQ (vw l i))) ?_ | refine bB Z Z ?_)) <;> (
     (first | refine dv Z Z (fun _ => rfl) ?_ | refine bB Z Z ?_ | (refine ds Z Z (fun hg => ?_) (fun hg => ?_) <;> first | refine dv Z Z (fun _ => rfl) ?_ | refine bB Z Z ?_)) <;> (
     (first | refine dc Z Z Z Z (fun _ => rfl) (fun _ => (Gg (CE hl))) ?_ | refine bB Z Z ?_ | (refine ds Z Z (fun hg => ?_) (fun hg => ?_) <;> first | refine dc Z Z Z Z (fun _ => rfl) (fun _ => (Gg (CE hl))) ?_ | refine bB Z Z ?_)) <;> (
     refine dv Z Z (fun _ => rfl) (dn (rn (ak ?_)))
     refine fB rfl (fun hc => ?_) (fun hc => ?_)
     ·
      first
      | (cases hc; done)
      | (
       refine ag (rv Z Z (rn (aT ?_)))
       repeat (first | refine an ?_ | refine ac ?_)
       refine rr Z Z ?_
       first | exact uC (by assumption) | exact oq (by assumption) | exact vR (by assumption) | exact wK hlt hkl hk.1 (by assumption) (by assumption) | exact qp hlt (by assumption) | exact rY hlt (by assumption) | exact rS hb hi (bh hc) | trace_state)
     ·
      first
      | (cases hc; done)
      | (
       refine aK (aS ?_)
       (have hnb : nbI l i = false := (by assumption); have hcn : (l.take i).any (rT (gp l i)) = false := (by assumption)) <;> (
       refine aR (rv Z Z (nU rfl (mB rfl (rE (k := 2) (by have := hb.2.1; unfold maxLen; omega))) (rv Z Z (rn (aB ?_)))))
       refine eQ (ι := Nat) (fun k => ⟨[(0, .sl (rows l)), (2, .bool false), (3, .int .i64 (i : Int)), (4, .ptr 0 0), (5, .int .i64 (k : Int)), (18, .sl (rows l)), (19, .int .i64 ((rows l).length : Int)), (20, .int .i64 (i : Int))], [(0, 0, .int .i64 (gp l i).1), (0, 1, .int .i64 (gp l i).2)], [], 1⟩) (fun k => IL l i k) (fun k => l.length - k) ((i + 2)) (Ii l i) ?_ (fun _ => Nat.zero_le _) (fun k hk => ?_)
       · (refine ⟨Nat.le_of_ble_eq_true rfl, ?_, ?_, ?_⟩ <;> repeat' (first | exact trivial | rfl | refine ⟨⟨?_, rfl⟩, ?_⟩ | refine ⟨⟨?_, rfl, rfl⟩, ?_⟩ | ((first | refine ei ?_ | refine eh ?_ | refine eb ?_ | refine oh ?_ | skip); exact bg hkl hl)))
       refine aS (ag (rg 4 rfl (rn (ak ?_))))
       refine fB rfl (fun hc => ?_) (fun hc => ?_)
       ·
        first
        | (cases hc; done)
        | (
         refine aK (aS (aB (aS ?_)))
         (have hkl := jE hc) <;> (
         refine mw 21 Tryz.mix (dv Z Z (fun _ => rfl) (Iv Z Z (fun _ => mB rfl (rE (k := 1) (by have := hb.2.1; unfold maxLen; omega))) (dv Z Z (fun _ => rfl) (dv Z Z (fun _ => rfl) (Iv Z Z (fun _ => lb Z Z (kZ (by omega)) (fx l (k + 1))) (dv Z Z (fun _ => rfl) (dv Z Z (fun _ => rfl) (dv Z Z (fun _ => rfl) ?_))))))))
         (first | refine dv Z Z (fun _ => rfl) ?_ | refine bB Z Z ?_ | (refine ds Z Z (fun hg => ?_) (fun hg => ?_) <;> first | refine dv Z Z (fun _ => rfl) ?_ | refine bB Z Z ?_)) <;> (
         (first | refine dv Z Z (fun _ => rfl) ?_ | refine bB Z Z ?_ | (refine ds Z Z (fun hg => ?_) (fun hg => ?_) <;> first | refine dv Z Z (fun _ => rfl) ?_ | refine bB Z Z ?_)) <;> (
         (first | refine dv Z Z (fun _ => rfl) ?_ | refine bB Z Z ?_ | (refine ds Z Z (fun hg => ?_) (fun hg => ?_) <;> first | refine dv Z Z (fun _ => rfl) ?_ | refine bB Z Z ?_)) <;> (
         (first | refine dc Z Z Z Z (fun _ => rfl) (fun _ => (pf (by omega) (by have := hb.2.1; unfold maxLen; omega))) ?_ | refine bB Z Z ?_ | (refine ds Z Z (fun hg => ?_) (fun hg => ?_) <;> first | refine dc Z Z Z Z (fun _ => rfl) (fun _ => (pf (by omega) (by have := hb.2.1; unfold maxLen; omega))) ?_ | refine bB Z Z ?_)) <;> (
         (first | refine dv Z Z (fun _ => rfl) ?_ | refine bB Z Z ?_ | (refine ds Z Z (fun hg => ?_) (fun hg => ?_) <;> first | refine dv Z Z (fun _ => rfl) ?_ | refine bB Z Z ?_)) <;> (
         (first | refine dv Z Z (fun _ => rfl) ?_ | refine bB Z Z ?_ | (refine ds Z Z (fun hg => ?_) (fun hg => ?_) <;> first | refine dv Z Z (fun _ => rfl) ?_ | refine bB Z Z ?_)) <;> (
         (first | refine di Z Z Z Z Z (fun _ => rfl) rfl (Int.natCast_nonneg _) (iT hkl) (bz l) ?_ | refine bB Z Z ?_ | (refine ds Z Z (fun hg => ?_) (fun hg => ?_) <;> first | refine di Z Z Z Z Z (fun _ => rfl) rfl (Int.natCast_nonneg _) (iT hkl) (bz l) ?_ | refine bB Z Z ?_)) <;> (
         (first | refine dv Z Z (fun _ => rfl) ?_ | refine bB Z Z ?_ | (refine ds Z Z (fun hg => ?_) (fun hg => ?_) <;> first | refine dv Z Z (fun _ => rfl) ?_ | refine bB Z Z ?_)) <;> (
         (first | refine dv Z Z (fun _ => rfl) ?_ | refine bB Z Z ?_ | (refine ds Z Z (fun hg => ?_) (fun hg => ?_) <;> first | refine dv Z Z (fun _ => rfl) ?_ | refine bB Z Z ?_)) <;> (
         (first | refine dv Z Z (fun _ => rfl) ?_ | refine bB Z Z ?_ | (refine ds Z Z (fun hg => ?_) (fun hg => ?_) <;> first | refine dv Z Z (fun _ => rfl) ?_ | refine bB Z Z ?_)) <;> (
         (first | refine dc Z Z Z Z (fun _ => rfl) (fun _ => (pf (by omega) (by have := hb.2.1; unfold maxLen; omega))) ?_ | refine bB Z Z ?_ | (refine ds Z Z (fun hg => ?_) (fun hg => ?_) <;> first | refine dc Z Z Z Z (fun _ => rfl) (fun _ => (pf (by omega) (by have := hb.2.1; unfold maxLen; omega))) ?_ | refine bB Z Z ?_)) <;> (
         (first | refine dc Z Z Z Z (fun _ => rfl) (fun _ => AJ) ?_ | refine bB Z Z ?_ | (refine ds Z Z (fun hg => ?_) (fun hg => ?_) <;> first | refine dc Z Z Z Z (fun _ => rfl) (fun _ => AJ) ?_ | refine bB Z Z ?_)) <;> (
         refine dv Z Z (fun _ => rfl) (dn (rn (ak ?_)))
         refine fB rfl (fun hc => ?_) (fun hc => ?_)
         ·
          first
          | (cases hc; done)
          | (
           refine ag (rv Z Z (rn (aT ?_)))
           repeat (first | refine an ?_ | refine ac ?_)
           refine rr Z Z ?_
           first | exact uC (by assumption) | exact oq (by assumption) | exact vR (by assumption) | exact wK hlt hkl hk.1 (by assumption) (by assumption) | exact qp hlt (by assumption) | exact rY hlt (by assumption) | exact rS hb hi (bh hc) | trace_state)
         ·
          first
          | (cases hc; done)
          | (
           refine aK (ah (aR (rg 3 rfl (rn (ak ?_)))))
           refine ⟨k + 1, DE hk (by first | exact G1 (by assumption) | exact .inr (by assumption)), by omega, ?_⟩
           (refine ⟨Nat.le_of_ble_eq_true rfl, ?_, ?_, ?_⟩ <;> repeat' (first | exact trivial | rfl | refine ⟨⟨?_, rfl⟩, ?_⟩ | refine ⟨⟨?_, rfl, rfl⟩, ?_⟩ | ((first | refine ei ?_ | refine eh ?_ | refine eb ?_ | refine oh ?_ | skip); exact bg hkl hl))))))))))))))))))
       ·
        first
        | (cases hc; done)
        | (
         refine aW ?_
         repeat (first | refine cO ?_ | refine bE rfl ?_)
         refine bI (ah (aR (rg 2 rfl (rn (ak ?_)))))
         refine ⟨i + 1, Cf hi hlt hnb hcn hk (bh hc), by omega, ?_⟩
         (refine ⟨Nat.le_of_ble_eq_true rfl, ?_, ?_, ?_⟩ <;> repeat' (first | exact trivial | rfl | refine ⟨⟨?_, rfl⟩, ?_⟩ | refine ⟨⟨?_, rfl, rfl⟩, ?_⟩ | ((first | refine ei ?_ | refine eh ?_ | refine eb ?_ | refine oh ?_ | skip); exact bg hlt hl)))))))))))))
   ·
    first
    | (cases hc; done)
    | (
     refine aW ?_
     repeat (first | refine cO ?_ | refine bE rfl ?_)
     refine bI (ag (rv Z Z (rn (aT ?_))))
     repeat (first | refine an ?_ | refine ac ?_)
     refine rr Z Z ?_
     first | exact uC (by assumption) | exact oq (by assumption) | exact vR (by assumption) | exact wK hlt hkl hk.1 (by assumption) (by assumption) | exact qp hlt (by assumption) | exact rY hlt (by assumption) | exact rS hb hi (bh hc) | trace_state))))))
end
theorem HC {a b c d x y : Int} : ai Tryz.prog 139 [.agg [.int .i64 a, .int .i64 b], .agg [.int .i64 c, .int .i64 d], .agg [.int .i64 x, .int .i64 y]] (· = .bool (om a b c d x y)) := by
 rw [← Bi]; exact xP
theorem Fa {a b c d x y x' y' : Int} : ai Tryz.prog 140 [.agg [.int .i64 a, .int .i64 b], .agg [.int .i64 c, .int .i64 d], .agg [.int .i64 x, .int .i64 y], .agg [.int .i64 x', .int .i64 y']] (· = .bool (fO a b c d x y x' y')) := by
 rw [← zI]; exact D2
def FW (l : List Pt) : Prop := 3 ≤ l.length ∧ l.length ≤ 64
theorem Ct {l : List Pt} (h1 : decide (((rows l).length : Int) < 3) = false) (h2 : decide (((rows l).length : Int) > 64) = false) : FW l := by
 rw [eS] at h1 h2; simp at h1 h2
 exact ⟨by omega, by omega⟩
def IX (l : List Pt) (i : Nat) : Prop := i ≤ l.length ∧ ∀ j, j < i → my (gp l j) = true ∧ ∀ k, k < j → rT (gp l j) (gp l k) = false
def I8 (l : List Pt) (i k : Nat) : Prop := k ≤ i ∧ ∀ j, j < k → rT (gp l i) (gp l j) = false
theorem CC {l : List Pt} {i k : Nat} (h : I8 l i k) (hk : k < i) (he : rT (gp l i) (gp l k) = false) : I8 l i (k + 1) :=
 ⟨hk, fun j hj => by
  by_cases e : j = k
  · subst e; exact he
  · exact h.2 j (by omega)⟩
theorem CK {l : List Pt} {i k : Nat} (h : IX l i) (hl : i < l.length) (hm : my (gp l i) = true) (hk : I8 l i k) (he : ¬ k < i) : IX l (i + 1) :=
 ⟨hl, fun j hj => by
  by_cases e : j = i
  · subst e; exact ⟨hm, fun m a => hk.2 m (by omega)⟩
  · exact h.2 j (by omega)⟩
theorem nL {l : List Pt} {i : Nat} (hl : i < l.length) (h : my (gp l i) = false) : AV.bool false = AV.bool (bT l) := by
 rw [it]; intro hs; rw [hs.may _ (oE (by omega) i)] at h; cases h
theorem qB {l : List Pt} {i k : Nat} (hl : i < l.length) (hk : k < i) (h : rT (gp l i) (gp l k) = true) : AV.bool false = AV.bool (bT l) := by
 rw [it]; intro hs
 rw [w6] at h
 have := zw hs.nd (by omega) h
 rw [Nat.mod_eq_of_lt hl, Nat.mod_eq_of_lt (by omega)] at this; omega
theorem DI {l : List Pt} {i : Nat} (h : IX l i) (he : ¬ i < l.length) : l.all my = true ∧ l.Nodup := by
 have e : i = l.length := by have := h.1; omega
 subst e
 refine ⟨List.all_eq_true.2 fun p hp => ?_, uY fun j hj => ?_⟩
 ·
  obtain ⟨j, hj, rfl⟩ := List.mem_iff_getElem.1 hp
  rw [← jZ hj]; exact (h.2 j hj).1
 ·
  rw [List.any_eq_false]
  intro x hx
  obtain ⟨k, hk, rfl⟩ := List.mem_take_iff_getElem.1 hx
  have := (h.2 j hj).2 k (by omega)
  rw [jZ (i := k) (by omega)] at this
  rw [this]; simp
def Bz (l : List Pt) (i k : Nat) : Prop := k = i ∨ k = (i + 1) % l.length ∨ i = (k + 1) % l.length ∨ crI l i k = false
def EM (l : List Pt) (i k : Nat) : Prop := k ≤ l.length ∧ ∀ j, j < k → Bz l i j
def E8 (l : List Pt) (i : Nat) : Prop := i ≤ l.length ∧ ∀ j, j < i → nbI l j = false ∧ ∀ k, k < l.length → Bz l j k
theorem u6 {l : List Pt} {i k : Nat} (h : EM l i k) (hk : k < l.length) (hc : Bz l i k) : EM l i (k + 1) :=
 ⟨hk, fun j hj => by
  by_cases e : j = k
  · subst e; exact hc
  · exact h.2 j (by omega)⟩
theorem BB {l : List Pt} {i k : Nat} (h : E8 l i) (hl : i < l.length) (h1 : nbI l i = false) (hk : EM l i k) (he : ¬ k < l.length) : E8 l (i + 1) :=
 ⟨hl, fun j hj => by
  by_cases e : j = i
  · subst e; exact ⟨h1, fun m a => hk.2 m (by omega)⟩
  · exact h.2 j (by omega)⟩
theorem lK {l : List Pt} {i : Nat} (hb : FW l) (hm : l.all my = true ∧ l.Nodup) (h : E8 l i) (he : ¬ i < l.length) : AV.bool true = AV.bool (bT l) := by
 have e : i = l.length := by have := h.1; omega
 subst e
 have : bT l = true := (iN l).2 (vD hb.1 hb.2 (List.all_eq_true.1 hm.1) hm.2 (fun i hi => (h.2 i hi).1) fun i k h1 h2 h3 => by
  rcases (h.2 i (by omega)).2 k h2 with h | h | h | h
  · omega
  · rw [Nat.mod_eq_of_lt (by omega)] at h; omega
  · exact absurd h.symm h3
  · exact h)
 rw [this]
theorem nP {l : List Pt} {i k : Nat} (hl : i < l.length) (hk : k < l.length) (h1 : ((k : Int) == (i : Int)) = false) (h2 : ((k : Int) == (((i + 1) % l.length : Nat) : Int)) = false) (h3 : ((i : Int) == (((k + 1) % l.length : Nat) : Int)) = false)
  (h : crI l i k = true) : AV.bool false = AV.bool (bT l) := by
 rw [it]; intro hs
 have e1 : k ≠ i := fun e => by rw [e] at h1; simp at h1
 have e2 : k ≠ (i + 1) % l.length := fun e => by rw [← e] at h2; simp at h2
 have e3 : i ≠ (k + 1) % l.length := fun e => by rw [← e] at h3; simp at h3
 rw [hs.crI hl hk e1 e2 e3] at h; cases h
theorem HW {l : List Pt} {i k : Nat} (h : ((k : Int) == (i : Int)) = true) : Bz l i k := .inl (Int.ofNat.inj (beq_iff_eq.1 h))
theorem IS {l : List Pt} {i k : Nat} (h : ((k : Int) == (((i + 1) % l.length : Nat) : Int)) = true) : Bz l i k := .inr (.inl (Int.ofNat.inj (beq_iff_eq.1 h)))
theorem H6 {l : List Pt} {i k : Nat} (h : ((i : Int) == (((k + 1) % l.length : Nat) : Int)) = true) : Bz l i k := .inr (.inr (.inl (Int.ofNat.inj (beq_iff_eq.1 h))))
theorem Jv {l : List Pt} {i : Nat} (h1 : on (gp l i) (gp l (i + 1)) (gp l (i + 2)) = false) (h2 : on (gp l (i + 1)) (gp l (i + 2)) (gp l i) = false) : nbI l i = false := by unfold nbI; rw [h1, h2]; rfl
theorem Bu {l : List Pt} {i : Nat} (hl : i < l.length) (h : on (gp l i) (gp l (i + 1)) (gp l (i + 2)) = true) : AV.bool false = AV.bool (bT l) := qp hl (by unfold nbI; rw [h]; rfl)
theorem BF {l : List Pt} {i : Nat} (hl : i < l.length) (h : on (gp l (i + 1)) (gp l (i + 2)) (gp l i) = true) : AV.bool false = AV.bool (bT l) := qp hl (by unfold nbI; rw [h, Bool.or_true])
theorem J5 {k i : Nat} (h : decide ((k : Int) < (i : Int)) = true) : k < i := by simp at h; omega
theorem Jl {k i : Nat} (h : decide ((k : Int) < (i : Int)) = false) : ¬ k < i := by simp at h; omega
section
attribute [local irreducible] cg aM DP ai aP Decidable.decide Nat.mod om fO cA bT
theorem B7 {l : List Pt} (hl : l.length ≤ maxLen) : ai Tryz.prog 92 [.sl (rows l)] (· = .bool (bT l)) := by
 refine cf Tryz.func92 ?_
 refine ag (rv Z Z (rn (ag (rg 3 rfl (rn (aS (ag (rg 3 rfl ?_))))))))
 (iterate 2 all_goals (first | refine d6 (rv Z Z ?_) | refine d7 ?_ | refine d8 ?_ | refine gs Z Z Z Z Z (fun hg => rv Z Z ?_) fun hg => ?_)) <;> (
 refine rv Z Z (rn (ak ?_))
 refine fB rfl (fun hc => ?_) (fun hc => ?_)
 ·
  first
  | (cases hc; done)
  | (
   refine ag (rv Z Z (rn (aT ?_)))
   repeat (first | refine an ?_ | refine ac ?_)
   refine rr Z Z ?_
   first | exact uC (by assumption) | exact oq (by assumption) | exact nP hlt hkl (by assumption) (by assumption) (by assumption) (by assumption) | exact qB hlt hki (by first | assumption | simpa [rT] using hc) | exact Bu hlt (by assumption) | exact BF hlt (by assumption) | exact nL hlt (by first | assumption | (simpa [my] using hc)) | exact lK hb hB hi (bh hc) | trace_state)
 ·
  first
  | (cases hc; done)
  | (
   refine aK (aS (aS ?_))
   (have hb := Ct (by assumption) (by assumption)) <;> (
   refine aR (rv Z Z (rn (aB ?_)))
   refine eQ (ι := Nat) (fun i => ⟨[(0, .sl (rows l)), (2, .bool false), (3, .int .i64 ((rows l).length : Int)), (4, .int .i64 (i : Int))], [], [], 0⟩) (fun i => IX l i) (fun i => l.length - i) (0) (⟨Nat.zero_le _, fun j hj => by omega⟩) ?_ (fun _ => Nat.zero_le _) (fun i hi => ?_)
   · (refine ⟨Nat.le_of_ble_eq_true rfl, ?_, ?_, ?_⟩ <;> repeat' (first | exact trivial | rfl | refine ⟨⟨?_, rfl⟩, ?_⟩ | refine ⟨⟨?_, rfl, rfl⟩, ?_⟩ | ((first | refine ei ?_ | refine eh ?_ | refine eb ?_ | refine oh ?_ | skip); exact bg hlt hl)))
   refine aS (ag (rg 3 rfl (rn (ak ?_))))
   refine fB rfl (fun hc => ?_) (fun hc => ?_)
   ·
    first
    | (cases hc; done)
    | (
     refine aK (aS (aB (aS ?_)))
     (have hlt := jE hc) <;> (
     refine aR (rg 2 rfl (ri Z Z Z Z Z Z (Int.natCast_nonneg _) (iT hlt) (bz l) (rv Z Z (bt Z Z Z kR (rv Z Z (rn (aS (ag (rg 2 rfl (rn (ak ?_)))))))))))
     refine fB rfl (fun hc => ?_) (fun hc => ?_)
     ·
      first
      | (cases hc; done)
      | (
       refine ag (rv Z Z (rn (aT ?_)))
       repeat (first | refine an ?_ | refine ac ?_)
       refine rr Z Z ?_
       first | exact uC (by assumption) | exact oq (by assumption) | exact nP hlt hkl (by assumption) (by assumption) (by assumption) (by assumption) | exact qB hlt hki (by first | assumption | simpa [rT] using hc) | exact Bu hlt (by assumption) | exact BF hlt (by assumption) | exact nL hlt (by first | assumption | (simpa [my] using hc)) | exact lK hb hB hi (bh hc) | trace_state)
     ·
      first
      | (cases hc; done)
      | (
       refine aK (aS ?_)
       (have hm : my (gp l i) = true := (by first | assumption | (simpa [my] using hc))) <;> (
       refine aR (rv Z Z (rn (aB ?_)))
       refine eQ (ι := Nat) (fun k => ⟨[(0, .sl (rows l)), (2, .bool false), (3, .int .i64 ((rows l).length : Int)), (4, .int .i64 (i : Int)), (6, .int .i64 (k : Int))], [], [], 0⟩) (fun k => I8 l i k) (fun k => i - k) (0) (⟨Nat.zero_le _, fun j hj => by omega⟩) ?_ (fun _ => Nat.zero_le _) (fun k hk => ?_)
       · (refine ⟨Nat.le_of_ble_eq_true rfl, ?_, ?_, ?_⟩ <;> repeat' (first | exact trivial | rfl | refine ⟨⟨?_, rfl⟩, ?_⟩ | refine ⟨⟨?_, rfl, rfl⟩, ?_⟩ | ((first | refine ei ?_ | refine eh ?_ | refine eb ?_ | refine oh ?_ | skip); exact bg (Nat.lt_trans hki hlt) hl)))
       refine aS (ag (rg 3 rfl (rn (ak ?_))))
       refine fB rfl (fun hc => ?_) (fun hc => ?_)
       ·
        first
        | (cases hc; done)
        | (
         refine aK (aS (aB (aS ?_)))
         (have hki := J5 hc) <;> (
         refine mw 9 Tryz.mix (dv Z Z (fun _ => rfl) (dv Z Z (fun _ => rfl) (di Z Z Z Z Z (fun _ => rfl) rfl (Int.natCast_nonneg _) (iT hlt) (bz l) (dv Z Z (fun _ => rfl) (dv Z Z (fun _ => rfl) (dv Z Z (fun _ => rfl) (di Z Z Z Z Z (fun _ => rfl) rfl (Int.natCast_nonneg _) (iT (by omega)) (bz l) (dv Z Z (fun _ => rfl) (dv Z Z (fun _ => rfl) (dn (rn (ak ?_))))))))))))
         refine fB rfl (fun hc => ?_) (fun hc => ?_)
         ·
          first
          | (cases hc; done)
          | (
           refine ag (rv Z Z (rn (aT ?_)))
           repeat (first | refine an ?_ | refine ac ?_)
           refine rr Z Z ?_
           first | exact uC (by assumption) | exact oq (by assumption) | exact nP hlt hkl (by assumption) (by assumption) (by assumption) (by assumption) | exact qB hlt hki (by first | assumption | simpa [rT] using hc) | exact Bu hlt (by assumption) | exact BF hlt (by assumption) | exact nL hlt (by first | assumption | (simpa [my] using hc)) | exact lK hb hB hi (bh hc) | trace_state)
         ·
          first
          | (cases hc; done)
          | (
           refine aK (ah (aR (rg 3 rfl (rn (ak ?_)))))
           refine ⟨k + 1, CC hk hki (by first | assumption | simpa [rT] using hc), by omega, ?_⟩
           (refine ⟨Nat.le_of_ble_eq_true rfl, ?_, ?_, ?_⟩ <;> repeat' (first | exact trivial | rfl | refine ⟨⟨?_, rfl⟩, ?_⟩ | refine ⟨⟨?_, rfl, rfl⟩, ?_⟩ | ((first | refine ei ?_ | refine eh ?_ | refine eb ?_ | refine oh ?_ | skip); exact bg (Nat.lt_trans hki hlt) hl))))))
       ·
        first
        | (cases hc; done)
        | (
         refine aW ?_
         repeat (first | refine cO ?_ | refine bE rfl ?_)
         refine bI (ah (aR (rg 3 rfl (rn (ak ?_)))))
         refine ⟨i + 1, CK hi hlt hm hk (Jl hc), by omega, ?_⟩
         (refine ⟨Nat.le_of_ble_eq_true rfl, ?_, ?_, ?_⟩ <;> repeat' (first | exact trivial | rfl | refine ⟨⟨?_, rfl⟩, ?_⟩ | refine ⟨⟨?_, rfl, rfl⟩, ?_⟩ | ((first | refine ei ?_ | refine eh ?_ | refine eb ?_ | refine oh ?_ | skip); exact bg hlt hl))))))))
   ·
    first
    | (cases hc; done)
    | (
     refine aW ?_
     repeat (first | refine cO ?_ | refine bE rfl ?_)
     refine bI (aS (aS ?_))
     (have hB := DI hi (bh hc)) <;> (
     refine aR (rv Z Z (rn (aB ?_)))
     refine eQ (ι := Nat) (fun i => ⟨[(0, .sl (rows l)), (2, .bool false), (3, .int .i64 ((rows l).length : Int)), (7, .int .i64 (i : Int))], [], [], 0⟩) (fun i => E8 l i) (fun i => l.length - i) (0) (⟨Nat.zero_le _, fun j hj => by omega⟩) ?_ (fun _ => Nat.zero_le _) (fun i hi => ?_)
     · (refine ⟨Nat.le_of_ble_eq_true rfl, ?_, ?_, ?_⟩ <;> repeat' (first | exact trivial | rfl | refine ⟨⟨?_, rfl⟩, ?_⟩ | refine ⟨⟨?_, rfl, rfl⟩, ?_⟩ | ((first | refine ei ?_ | refine eh ?_ | refine eb ?_ | refine oh ?_ | skip); exact bg hlt hl)))
     refine aS (ag (rg 3 rfl (rn (ak ?_))))
     refine fB rfl (fun hc => ?_) (fun hc => ?_)
     ·
      first
      | (cases hc; done)
      | (
       refine aK (aS (aB (aS ?_)))
       (have hlt := jE hc) <;> (
       refine aR (rg 2 rfl (ri Z Z Z Z Z Z (Int.natCast_nonneg _) (iT hlt) (bz l) (rv Z Z (ra Z Z Z (rs Z Z Z Z Z Z Z (rn (ag (rg 2 rfl (nU rfl (mB rfl (rE (k := 1) (by have := hb.2; unfold maxLen; omega))) (rv Z Z (nU rfl (lb Z Z (kZ (by omega)) (fx l (i + 1))) (ri Z Z Z Z Z Z (Int.natCast_nonneg _) (pJ (by omega) _) (bz l) (rv Z Z (ra Z Z Z (rs Z Z Z Z Z Z Z (rn (ag (rg 2 rfl (nU rfl (mB rfl (rE (k := 2) (by have := hb.2; unfold maxLen; omega))) (rv Z Z (nU rfl (lb Z Z (kZ (by omega)) (fx l (i + 2))) (ri Z Z Z Z Z Z (Int.natCast_nonneg _) (pJ (by omega) _) (bz l) (rv Z Z (ra Z Z Z (rs Z Z Z Z Z Z Z (rn (ag (rg 3 rfl (bt Z Z Z HC (rv Z Z (rn (ag (rg 3 rfl (bt Z Z Z HC (rv Z Z (rn (aS (ag (rg 2 rfl ?_)))))))))))))))))))))))))))))))))))))))
       ((first | refine d6 (rv Z Z ?_) | refine d7 ?_ | refine d8 ?_ | refine gs Z Z Z Z Z (fun hg => rv Z Z ?_) fun hg => ?_)) <;> (
       refine rv Z Z (rn (ak ?_))
       refine fB rfl (fun hc => ?_) (fun hc => ?_)
       ·
        first
        | (cases hc; done)
        | (
         refine ag (rv Z Z (rn (aT ?_)))
         repeat (first | refine an ?_ | refine ac ?_)
         refine rr Z Z ?_
         first | exact uC (by assumption) | exact oq (by assumption) | exact nP hlt hkl (by assumption) (by assumption) (by assumption) (by assumption) | exact qB hlt hki (by first | assumption | simpa [rT] using hc) | exact Bu hlt (by assumption) | exact BF hlt (by assumption) | exact nL hlt (by first | assumption | (simpa [my] using hc)) | exact lK hb hB hi (bh hc) | trace_state)
       ·
        first
        | (cases hc; done)
        | (
         refine aK (aS ?_)
         (have hnb := Jv (by assumption) (by assumption)) <;> (
         refine aR (rv Z Z (rn (aB ?_)))
         refine eQ (ι := Nat) (fun k => ⟨[(0, .sl (rows l)), (2, .bool false), (3, .int .i64 ((rows l).length : Int)), (7, .int .i64 (i : Int)), (8, .ptr 0 0), (9, .ptr 1 0), (13, .int .i64 (k : Int))], [(0, 0, .int .i64 (gp l i).1), (0, 1, .int .i64 (gp l i).2), (1, 0, .int .i64 (gp l (i + 1)).1), (1, 1, .int .i64 (gp l (i + 1)).2)], [], 3⟩) (fun k => EM l i k) (fun k => l.length - k) (0) (⟨Nat.zero_le _, fun j hj => by omega⟩) ?_ (fun _ => Nat.zero_le _) (fun k hk => ?_)
         · (refine ⟨Nat.le_of_ble_eq_true rfl, ?_, ?_, ?_⟩ <;> repeat' (first | exact trivial | rfl | refine ⟨⟨?_, rfl⟩, ?_⟩ | refine ⟨⟨?_, rfl, rfl⟩, ?_⟩ | ((first | refine ei ?_ | refine eh ?_ | refine eb ?_ | refine oh ?_ | skip); exact bg hkl hl)))
         refine aS (ag (rg 3 rfl (rn (ak ?_))))
         refine fB rfl (fun hc => ?_) (fun hc => ?_)
         ·
          first
          | (cases hc; done)
          | (
           refine aK (aS (aB (aS (aS ?_))))
           (have hkl := jE hc) <;> (
           refine aR (rg 4 rfl ?_)
           (iterate 2 all_goals (first | refine d6 (rv Z Z ?_) | refine d7 ?_ | refine d8 ?_ | refine gs Z Z Z Z Z (fun hg => rv Z Z ?_) fun hg => ?_)) <;> (
           (first | refine d6 (nU rfl (mB rfl (rE (k := 1) (by have := hb.2; unfold maxLen; omega))) (?_)) | refine d7 ?_ | refine d8 ?_ | refine gs Z Z Z Z Z (fun hg => nU rfl (mB rfl (rE (k := 1) (by have := hb.2; unfold maxLen; omega))) (?_)) fun hg => ?_) <;> (
           ((first | refine d6 (rv Z Z ?_) | refine d7 ?_ | refine d8 ?_ | refine gs Z Z Z Z Z (fun hg => rv Z Z ?_) fun hg => ?_)) <;> (
           (first | refine d6 (nU rfl (lb Z Z (kZ (by omega)) (fx l (i + 1))) (?_)) | refine d7 ?_ | refine d8 ?_ | refine gs Z Z Z Z Z (fun hg => nU rfl (lb Z Z (kZ (by omega)) (fx l (i + 1))) (?_)) fun hg => ?_) <;> (
           ((first | refine d6 (rv Z Z ?_) | refine d7 ?_ | refine d8 ?_ | refine gs Z Z Z Z Z (fun hg => rv Z Z ?_) fun hg => ?_)) <;> (
           refine rg 2 rfl ?_
           (iterate 2 all_goals (first | refine d6 (rv Z Z ?_) | refine d7 ?_ | refine d8 ?_ | refine gs Z Z Z Z Z (fun hg => rv Z Z ?_) fun hg => ?_)) <;> (
           (first | refine d6 (nU rfl (mB rfl (rE (k := 1) (by have := hb.2; unfold maxLen; omega))) (?_)) | refine d7 ?_ | refine d8 ?_ | refine gs Z Z Z Z Z (fun hg => nU rfl (mB rfl (rE (k := 1) (by have := hb.2; unfold maxLen; omega))) (?_)) fun hg => ?_) <;> (
           ((first | refine d6 (rv Z Z ?_) | refine d7 ?_ | refine d8 ?_ | refine gs Z Z Z Z Z (fun hg => rv Z Z ?_) fun hg => ?_)) <;> (
           (first | refine d6 (nU rfl (lb Z Z (kZ (by omega)) (fx l (k + 1))) (?_)) | refine d7 ?_ | refine d8 ?_ | refine gs Z Z Z Z Z (fun hg => nU rfl (lb Z Z (kZ (by omega)) (fx l (k + 1))) (?_)) fun hg => ?_) <;> (
           ((first | refine d6 (rv Z Z ?_) | refine d7 ?_ | refine d8 ?_ | refine gs Z Z Z Z Z (fun hg => rv Z Z ?_) fun hg => ?_)) <;> (
           refine rv Z Z (rn (ak ?_))
           refine fB rfl (fun hc => ?_) (fun hc => ?_)
           ·
            first
            | (cases hc; done)
            | (
             refine aW ?_
             repeat (first | refine cO ?_ | refine bE rfl ?_)
             refine bI (aR (rg 3 rfl (rn (ak ?_))))
             refine ⟨k + 1, u6 hk hkl (by first | exact HW (by assumption) | exact IS (by assumption) | exact H6 (by assumption) | exact .inr (.inr (.inr (by assumption)))), by omega, ?_⟩
             (refine ⟨Nat.le_of_ble_eq_true rfl, ?_, ?_, ?_⟩ <;> repeat' (first | exact trivial | rfl | refine ⟨⟨?_, rfl⟩, ?_⟩ | refine ⟨⟨?_, rfl, rfl⟩, ?_⟩ | ((first | refine ei ?_ | refine eh ?_ | refine eb ?_ | refine oh ?_ | skip); exact bg hkl hl))))
           ·
            first
            | (cases hc; done)
            | (
             refine aK (aS (mw 14 Tryz.mix (dv Z Z (fun _ => rfl) (dv Z Z (fun _ => rfl) (dv Z Z (fun _ => rfl) (dv Z Z (fun _ => rfl) (di Z Z Z Z Z (fun _ => rfl) rfl (Int.natCast_nonneg _) (iT hkl) (bz l) (dv Z Z (fun _ => rfl) (dv Z Z (fun _ => rfl) (dv Z Z (fun _ => rfl) (Iv Z Z (fun _ => mB rfl (rE (k := 1) (by have := hb.2; unfold maxLen; omega))) (dv Z Z (fun _ => rfl) (Iv Z Z (fun _ => lb Z Z (kZ (by omega)) (fx l (k + 1))) (di Z Z Z Z Z (fun _ => rfl) rfl (Int.natCast_nonneg _) (pJ (by omega) _) (bz l) (dv Z Z (fun _ => rfl) (dc Z Z Z Z (fun _ => rfl) (fun _ => Fa) (dn (rv Z Z (rn (ag (rv Z Z (rn (ak ?_)))))))))))))))))))))))
             refine fB rfl (fun hc => ?_) (fun hc => ?_)
             ·
              first
              | (cases hc; done)
              | (
               refine ag (rv Z Z (rn (aT ?_)))
               repeat (first | refine an ?_ | refine ac ?_)
               refine rr Z Z ?_
               first | exact uC (by assumption) | exact oq (by assumption) | exact nP hlt hkl (by assumption) (by assumption) (by assumption) (by assumption) | exact qB hlt hki (by first | assumption | simpa [rT] using hc) | exact Bu hlt (by assumption) | exact BF hlt (by assumption) | exact nL hlt (by first | assumption | (simpa [my] using hc)) | exact lK hb hB hi (bh hc) | trace_state)
             ·
              first
              | (cases hc; done)
              | (
               refine aK (ah (aR (rg 3 rfl (rn (ak ?_)))))
               refine ⟨k + 1, u6 hk hkl (by first | exact HW (by assumption) | exact IS (by assumption) | exact H6 (by assumption) | exact .inr (.inr (.inr (by assumption)))), by omega, ?_⟩
               (refine ⟨Nat.le_of_ble_eq_true rfl, ?_, ?_, ?_⟩ <;> repeat' (first | exact trivial | rfl | refine ⟨⟨?_, rfl⟩, ?_⟩ | refine ⟨⟨?_, rfl, rfl⟩, ?_⟩ | ((first | refine ei ?_ | refine eh ?_ | refine eb ?_ | refine oh ?_ | skip); exact bg hkl hl)))))))))))))))))
         ·
          first
          | (cases hc; done)
          | (
           refine aW ?_
           repeat (first | refine cO ?_ | refine bE rfl ?_)
           refine bI (ah (aR (rg 3 rfl (rn (ak ?_)))))
           refine ⟨i + 1, BB hi hlt hnb hk (bh hc), by omega, ?_⟩
           (refine ⟨Nat.le_of_ble_eq_true rfl, ?_, ?_, ?_⟩ <;> repeat' (first | exact trivial | rfl | refine ⟨⟨?_, rfl⟩, ?_⟩ | refine ⟨⟨?_, rfl, rfl⟩, ?_⟩ | ((first | refine ei ?_ | refine eh ?_ | refine eb ?_ | refine oh ?_ | skip); exact bg hlt hl)))))))))
     ·
      first
      | (cases hc; done)
      | (
       refine aW ?_
       repeat (first | refine cO ?_ | refine bE rfl ?_)
       refine bI (ag (rv Z Z (rn (aT ?_))))
       repeat (first | refine an ?_ | refine ac ?_)
       refine rr Z Z ?_
       first | exact uC (by assumption) | exact oq (by assumption) | exact nP hlt hkl (by assumption) (by assumption) (by assumption) (by assumption) | exact qB hlt hki (by first | assumption | simpa [rT] using hc) | exact Bu hlt (by assumption) | exact BF hlt (by assumption) | exact nL hlt (by first | assumption | (simpa [my] using hc)) | exact lK hb hB hi (bh hc) | trace_state))))))
end
def Cb (l : List Pt) (p : Pt) (i : Nat) : Bool := decide (y8 p ((dZ l).take i) % 2 = 1)
theorem ky {l : List Pt} {i : Nat} (h : i < l.length) : (dZ l).take (i + 1) = (dZ l).take i ++ [(gp l i, gp l (i + 1))] := by
 rw [List.take_add_one, qz h]; rfl
theorem u4 (l : List Pt) {i : Nat} (h : i ≤ l.length) (hn : ¬ i < l.length) : (dZ l).take i = dZ l := by
 rw [List.take_of_length_le]; rw [vh]; omega
theorem IQ (l : List Pt) (p : Pt) : Cb l p 0 = false := by simp [Cb, y8]
theorem qL {l : List Pt} {p : Pt} {i : Nat} (h : i < l.length) (ht : yC p (gp l i, gp l (i + 1)) = false) : Cb l p (i + 1) = Cb l p i := by
 unfold Cb y8; rw [ky h, List.countP_append]; simp [ht]
theorem wx {l : List Pt} {p : Pt} {i : Nat} (h : i < l.length) (ht : yC p (gp l i, gp l (i + 1)) = true) : Cb l p (i + 1) = !Cb l p i := by
 unfold Cb y8; rw [ky h, List.countP_append]; simp only [List.countP_cons, List.countP_nil, ht, if_pos]
 rw [Bool.eq_iff_iff]; simp; omega
theorem DC {a b p : Pt} (h : (decide (a.2 > p.2) == decide (b.2 > p.2)) = true) : yC p (a, b) = false := by
 unfold yC; simp only [bne, h]; rfl
theorem uR {a b p : Pt} {u : Bool} (h : (decide (a.2 > p.2) == decide (b.2 > p.2)) = false) (k : (decide (b.2 > a.2) == decide (dH a.1 a.2 b.1 b.2 p.1 p.2 > 0)) = u) : yC p (a, b) = u := by
 unfold yC tn; simp only [bne, h, k]; cases u <;> rfl
def JJ (p : Pt) (e : Pt × Pt) : Bool := on e.1 e.2 p
def vK (l : List Pt) (p : Pt) (i : Nat) : Prop := i ≤ l.length ∧ ((dZ l).take i).any (JJ p) = false
theorem C7 (l : List Pt) (p : Pt) : vK l p 0 := ⟨Nat.zero_le _, by simp⟩
theorem iP {l : List Pt} {p : Pt} {i : Nat} (h : vK l p i) (hl : i < l.length) (hn : om (gp l i).1 (gp l i).2 (gp l (i + 1)).1 (gp l (i + 1)).2 p.1 p.2 = false) : vK l p (i + 1) :=
 ⟨hl, by rw [ky hl, List.any_append, h.2]; simp [JJ, on, hn]⟩
theorem AF {l : List Pt} {p : Pt} {i : Nat} (hl : i < l.length) (h : om (gp l i).1 (gp l i).2 (gp l (i + 1)).1 (gp l (i + 1)).2 p.1 p.2 = true) : AV.bool true = AV.bool (pR l p) := by
 have : (dZ l).any (fun e => on e.1 e.2 p) = true := List.any_eq_true.2 ⟨_, pm hl, h⟩
 unfold pR; rw [this]; rfl
theorem zM {l : List Pt} {p : Pt} {i : Nat} (hi : vK l p i) (hn : ¬ i < l.length) : Cb l p i = pR l p := by
 have h2 : (dZ l).any (fun e => on e.1 e.2 p) = false := by rw [← u4 l hi.1 hn]; exact hi.2
 unfold pR Cb; rw [h2, u4 l hi.1 hn]; rfl
abbrev U (n : Int) : Int := IntKind.wrap .u64 n
def FL (d p : Pt) : Pt := (W (p.1 + d.1), W (p.2 + d.2))
def sq (d : Pt) (p : Pt) : Bool := du p.1 p.2 d.1 d.2
theorem Do {d p : Pt} (h : sq d p = true) : FL d p = mv d p ∧ my (mv d p) = true := by
 obtain ⟨_, _, e1, e2, m⟩ := sa h
 unfold FL mv
 rw [e1, e2]; exact ⟨rfl, m⟩
def pN (l : List Pt) (d : Pt) : AV := match bT l, l.all (sq d) with
 | true, true => .tup [.sl (rows (l.map (FL d))), .nilI]
 | true, false => .tup [.sl [], .iface 55 (.int .i64 11)]
 | false, _ => .tup [.sl [], .iface 55 (.int .i64 1)]
theorem xj (x y : Int) : fI 2 [[AV.int .i64 x, .int .i64 y]] := fun r hr => by
 obtain rfl : r = [AV.int .i64 x, .int .i64 y] := by simpa using hr
 exact ⟨rfl, rfl, rfl⟩
def Ff (l : List Pt) (d : Pt) (i : Nat) : Prop := i ≤ l.length ∧ (l.take i).all (sq d) = true
theorem By {l : List Pt} {d : Pt} {i : Nat} (h : Ff l d i) (hl : i < l.length) (ha : du (gp l i).1 (gp l i).2 d.1 d.2 = true) : Ff l d (i + 1) :=
 ⟨hl, by rw [List.take_add_one, List.getElem?_eq_getElem hl, List.all_append, h.2]; rw [jZ hl] at ha; simp [sq, ha]⟩
theorem Hd {l : List Pt} {d : Pt} (h : (!bT l) = true) : AV.tup [.sl [], .iface 55 (.int .i64 1)] = pN l d := by
 unfold pN; rw [show bT l = false by simpa using h]
theorem HA {l : List Pt} {d : Pt} {i : Nat} (h : (!bT l) = false) (hl : i < l.length) (ha : du (gp l i).1 (gp l i).2 d.1 d.2 = false) : AV.tup [.sl [], .iface 55 (.int .i64 11)] = pN l d := by
 have : l.all (sq d) = false := by
  rw [Bool.eq_false_iff]; intro h2
  have := List.all_eq_true.1 h2 _ (oE (by omega) i)
  unfold sq at this; rw [ha] at this; cases this
 unfold pN; rw [show bT l = true by simpa using h, this]
theorem Hs {l : List Pt} {d : Pt} {i : Nat} (h : (!bT l) = false) (hi : Ff l d i) (hn : ¬ i < l.length) : AV.tup [.sl (rows ((l.take i).map (FL d))), .nilI] = pN l d := by
 have e : i = l.length := by have := hi.1; omega
 subst e
 have := hi.2
 rw [List.take_length] at this ⊢
 unfold pN; rw [show bT l = true by simpa using h, this]
theorem bN {l : List Pt} {d : Pt} {i : Nat} (hl : i < l.length) : rows ((l.take i).map (FL d)) ++ [[AV.int .i64 (W ((gp l i).1 + d.1)), .int .i64 (W ((gp l i).2 + d.2))]] = rows ((l.take (i + 1)).map (FL d)) := by
 rw [List.take_add_one, List.getElem?_eq_getElem hl, jZ hl]; simp only [rows, List.map_append]; rfl
section
attribute [local irreducible] cg aM DP ai aP Decidable.decide Nat.mod om dH Cb pR vK
theorem Jt {l : List Pt} {p : Pt} (hl : l.length ≤ maxLen) : ai Tryz.prog 100 [.sl (rows l), .agg [.int .i64 (p).1, .int .i64 (p).2]] (· = .bool (pR l p)) := by
 refine cf Tryz.func100 ?_
 refine ag (rb Z Z (rv Z Z (rn (ag (rv Z Z (rn (aS (ag (rg 3 rfl (rn (aB ?_)))))))))))
 refine eQ (ι := Nat) (fun i => ⟨[(0, .sl (rows l)), (3, .ptr 0 0), (4, .bool false), (5, .bool (Cb l p i)), (10, .sl (rows l)), (11, .int .i64 ((rows l).length : Int)), (12, .int .i64 (i : Int))], [(0, 0, .int .i64 p.1), (0, 1, .int .i64 p.2)], [], 1⟩) (fun i => vK l p i) (fun i => l.length - i) (0) (C7 l p) ?_ (fun _ => Nat.zero_le _) (fun i hi => ?_)
 · (refine ⟨Nat.le_of_ble_eq_true rfl, ?_, ?_, ?_⟩ <;> repeat' (first | exact trivial | rfl | refine ⟨⟨?_, rfl⟩, ?_⟩ | refine ⟨⟨?_, rfl, rfl⟩, ?_⟩ | ((first | refine ei ?_ | refine eh ?_ | refine eb ?_ | refine oh ?_ | skip); exact (IQ l p).symm)))
 refine ag (rv Z Z (rn (aS ?_)))
 refine fB rfl (fun hc => ?_) (fun hc => ?_)
 ·
  first
  | (cases hc; done)
  | (
   refine aK (aS (aB (aS ?_)))
   (have hlt := jE hc) <;> (
   refine aR (rv Z Z (ri Z Z Z Z Z Z (Int.natCast_nonneg _) (iT hlt) (bz l) (rv Z Z (ra Z Z Z (rv Z Z (rs Z Z Z Z Z Z Z (rn (ag (rg 2 rfl (bt Z Z Z (pf (by omega) (by omega)) (ra Z Z Z (rs Z Z Z Z Z Z Z (rn (aS (ag (rg 3 rfl (bt Z Z Z tS (rn (ak ?_)))))))))))))))))))
   refine fB rfl (fun hc => ?_) (fun hc => ?_)
   ·
    first
    | (cases hc; done)
    | (
     refine ag (rv Z Z (rn (aT ?_)))
     repeat (first | refine an ?_ | refine ac ?_)
     refine rr Z Z ?_
     first | exact AF hlt (by assumption) | exact eb (zM hi (bh hc)) | trace_state)
   ·
    first
    | (cases hc; done)
    | (
     refine aK (aS (ag (rg 11 rfl (rn (ak ?_)))))
     refine fB rfl (fun hc => ?_) (fun hc => ?_)
     ·
      first
      | (cases hc; done)
      | (
       refine aW ?_
       repeat (first | refine cO ?_ | refine bE rfl ?_)
       refine bI (aR (rg 2 rfl (rn (ak ?_))))
       refine ⟨i + 1, iP hi hlt (by assumption), by omega, ?_⟩
       (refine ⟨Nat.le_of_ble_eq_true rfl, ?_, ?_, ?_⟩ <;> repeat' (first | exact trivial | rfl | refine ⟨⟨?_, rfl⟩, ?_⟩ | refine ⟨⟨?_, rfl, rfl⟩, ?_⟩ | ((first | refine ei ?_ | refine eh ?_ | refine eb ?_ | refine oh ?_ | skip); first | exact bg hlt hl | exact (qL hlt (DC (by assumption))).symm | exact (qL hlt (uR (by assumption) (by assumption))).symm | exact (wx hlt (uR (by assumption) (by assumption))).symm))))
     ·
      first
      | (cases hc; done)
      | (
       refine aK (ag (rg 6 rfl (rn (ag (rg 4 rfl (bt Z Z Z nu (rg 2 rfl (rn (ak ?_)))))))))
       refine fB rfl (fun hc => ?_) (fun hc => ?_)
       ·
        first
        | (cases hc; done)
        | (
         refine aR (rg 3 rfl (rn (ah (aR (rg 2 rfl (rn (ak ?_)))))))
         refine ⟨i + 1, iP hi hlt (by assumption), by omega, ?_⟩
         (refine ⟨Nat.le_of_ble_eq_true rfl, ?_, ?_, ?_⟩ <;> repeat' (first | exact trivial | rfl | refine ⟨⟨?_, rfl⟩, ?_⟩ | refine ⟨⟨?_, rfl, rfl⟩, ?_⟩ | ((first | refine ei ?_ | refine eh ?_ | refine eb ?_ | refine oh ?_ | skip); first | exact bg hlt hl | exact (qL hlt (DC (by assumption))).symm | exact (qL hlt (uR (by assumption) (by assumption))).symm | exact (wx hlt (uR (by assumption) (by assumption))).symm))))
       ·
        first
        | (cases hc; done)
        | (
         refine aK (ah (aR (rg 2 rfl (rn (ak ?_)))))
         refine ⟨i + 1, iP hi hlt (by assumption), by omega, ?_⟩
         (refine ⟨Nat.le_of_ble_eq_true rfl, ?_, ?_, ?_⟩ <;> repeat' (first | exact trivial | rfl | refine ⟨⟨?_, rfl⟩, ?_⟩ | refine ⟨⟨?_, rfl, rfl⟩, ?_⟩ | ((first | refine ei ?_ | refine eh ?_ | refine eb ?_ | refine oh ?_ | skip); first | exact bg hlt hl | exact (qL hlt (DC (by assumption))).symm | exact (qL hlt (uR (by assumption) (by assumption))).symm | exact (wx hlt (uR (by assumption) (by assumption))).symm))))))))
 ·
  first
  | (cases hc; done)
  | (
   refine aW ?_
   repeat (first | refine cO ?_ | refine bE rfl ?_)
   refine bI (ag (rg 2 rfl (rn (aT ?_))))
   repeat (first | refine an ?_ | refine ac ?_)
   refine rr Z Z ?_
   first | exact AF hlt (by assumption) | exact eb (zM hi (bh hc)) | trace_state)
end
section
attribute [local irreducible] cg aM DP ai aP Decidable.decide Nat.mod bT du pN
theorem GR {l : List Pt} {d : Pt} (hl : l.length ≤ maxLen) : ai Tryz.prog 86 [.sl (rows l), .agg [.int .i64 (d).1, .int .i64 (d).2]] (· = pN l d) := by
 refine cf Tryz.func86 ?_
 refine ag (rb Z Z (rg 2 rfl (rn (aS (ag (rv Z Z (bt Z Z Z (ta hl) (rv Z Z (rn (ak ?_))))))))))
 refine fB rfl (fun hc => ?_) (fun hc => ?_)
 ·
  first
  | (cases hc; done)
  | (
   refine ag (rg 3 rfl (rn (aT ?_)))
   repeat (first | refine an ?_ | refine ac ?_)
   refine rr Z Z ?_
   first | exact Hd (by assumption) | exact HA hsb hlt hb | exact Hs hsb hi (bh hc) | trace_state)
 ·
  first
  | (cases hc; done)
  | (
   refine aK (ag (rv Z Z (rn (aS (aS ?_)))))
   (have h64 := ((iN l).1 (by simpa using hc)).n64; have hsb := hc) <;> (
   refine aR (rg 3 rfl (rn (aB (aQ (fun _ _ _ _ _ hi => nH false 2 6 rfl hi) ?_))))
   refine vv (ι := Nat) (fun i => ⟨[(0, .sl (rows l)), (3, .ptr 0 0), (6, .own 1), (15, .sl (rows l)), (16, .int .i64 ((rows l).length : Int)), (17, .int .i64 (i : Int))], [(0, 0, .int .i64 d.1), (0, 1, .int .i64 d.2)], [(1, .row 2 (rows ((l.take i).map (FL d))))], 2⟩) (fun i => Ff l d i) (fun i => l.length - i) (0) (⟨Nat.zero_le _, rfl⟩) ⟨[0, 1], rfl, ?_⟩ (fun i hi => ?_)
   ·
    refine ⟨rfl, rfl, ?_, ?_, ?_⟩
    ·
     refine ⟨⟨?_, rfl⟩, ?_⟩
     · first | exact .inl rfl | exact .inr rfl | (refine .inl ?_; (first | refine ei ?_ | refine eb ?_ | refine nQ ?_ | refine gM ?_ | skip); first | exact bg hlt hl | exact bN hlt | rfl) | (refine .inr ?_; (first | refine ei ?_ | refine eb ?_ | refine nQ ?_ | refine gM ?_ | skip); first | exact bg hlt hl | exact bN hlt | rfl)
     refine ⟨⟨?_, rfl⟩, ?_⟩
     · first | exact .inl rfl | exact .inr rfl | (refine .inl ?_; (first | refine ei ?_ | refine eb ?_ | refine nQ ?_ | refine gM ?_ | skip); first | exact bg hlt hl | exact bN hlt | rfl) | (refine .inr ?_; (first | refine ei ?_ | refine eb ?_ | refine nQ ?_ | refine gM ?_ | skip); first | exact bg hlt hl | exact bN hlt | rfl)
     refine ⟨⟨?_, rfl⟩, ?_⟩
     · first | exact .inl rfl | exact .inr rfl | (refine .inl ?_; (first | refine ei ?_ | refine eb ?_ | refine nQ ?_ | refine gM ?_ | skip); first | exact bg hlt hl | exact bN hlt | rfl) | (refine .inr ?_; (first | refine ei ?_ | refine eb ?_ | refine nQ ?_ | refine gM ?_ | skip); first | exact bg hlt hl | exact bN hlt | rfl)
     refine ⟨⟨?_, rfl⟩, ?_⟩
     · first | exact .inl rfl | exact .inr rfl | (refine .inl ?_; (first | refine ei ?_ | refine eb ?_ | refine nQ ?_ | refine gM ?_ | skip); first | exact bg hlt hl | exact bN hlt | rfl) | (refine .inr ?_; (first | refine ei ?_ | refine eb ?_ | refine nQ ?_ | refine gM ?_ | skip); first | exact bg hlt hl | exact bN hlt | rfl)
     refine ⟨⟨?_, rfl⟩, ?_⟩
     · first | exact .inl rfl | exact .inr rfl | (refine .inl ?_; (first | refine ei ?_ | refine eb ?_ | refine nQ ?_ | refine gM ?_ | skip); first | exact bg hlt hl | exact bN hlt | rfl) | (refine .inr ?_; (first | refine ei ?_ | refine eb ?_ | refine nQ ?_ | refine gM ?_ | skip); first | exact bg hlt hl | exact bN hlt | rfl)
     refine ⟨⟨?_, rfl⟩, ?_⟩
     · first | exact .inl rfl | exact .inr rfl | (refine .inl ?_; (first | refine ei ?_ | refine eb ?_ | refine nQ ?_ | refine gM ?_ | skip); first | exact bg hlt hl | exact bN hlt | rfl) | (refine .inr ?_; (first | refine ei ?_ | refine eb ?_ | refine nQ ?_ | refine gM ?_ | skip); first | exact bg hlt hl | exact bN hlt | rfl)
     exact trivial
    ·
     refine ⟨⟨?_, rfl, rfl⟩, ?_⟩
     · first | exact ⟨_, rfl, .inl rfl⟩ | exact ⟨_, rfl, .inr rfl⟩ | (refine ⟨_, rfl, .inl ?_⟩; (first | refine ei ?_ | refine eb ?_ | refine nQ ?_ | refine gM ?_ | skip); first | exact bg hlt hl | exact bN hlt | rfl) | (refine ⟨_, rfl, .inr ?_⟩; (first | refine ei ?_ | refine eb ?_ | refine nQ ?_ | refine gM ?_ | skip); first | exact bg hlt hl | exact bN hlt | rfl)
     refine ⟨⟨?_, rfl, rfl⟩, ?_⟩
     · first | exact ⟨_, rfl, .inl rfl⟩ | exact ⟨_, rfl, .inr rfl⟩ | (refine ⟨_, rfl, .inl ?_⟩; (first | refine ei ?_ | refine eb ?_ | refine nQ ?_ | refine gM ?_ | skip); first | exact bg hlt hl | exact bN hlt | rfl) | (refine ⟨_, rfl, .inr ?_⟩; (first | refine ei ?_ | refine eb ?_ | refine nQ ?_ | refine gM ?_ | skip); first | exact bg hlt hl | exact bN hlt | rfl)
     exact trivial
    ·
     refine ⟨IJ rfl ?_ rfl, ?_⟩
     · first | rfl | (first | exact bg hlt hl | exact bN hlt | rfl)
     exact trivial
   refine ag (rv Z Z (rn (aS ?_)))
   refine fB rfl (fun hc => ?_) (fun hc => ?_)
   ·
    first
    | (cases hc; done)
    | (
     refine aK (aS (aB (aS ?_)))
     (have hlt := jE hc) <;> (
     refine aR (ri Z Z Z Z Z Z (Int.natCast_nonneg _) (iT hlt) (bz l) (rv Z Z (ra Z Z Z (rs Z Z Z Z Z Z Z (rn (aS ?_))))))
     (rcases hb : du (gp l i).1 (gp l i).2 d.1 d.2 with _ | _) <;> (
     refine aR (rg 2 rfl (bt Z Z Z (zN hb) (rg 3 rfl (ra Z Z Z (rs Z Z Z Z Z Z Z (rv Z Z (rn (aS (ag (rg 2 rfl (rn (ak ?_))))))))))))
     refine fB rfl (fun hc => ?_) (fun hc => ?_)
     ·
      first
      | (cases hc; done)
      | (
       refine ag (rg 3 rfl (rn (aT ?_)))
       repeat (first | refine an ?_ | refine ac ?_)
       refine rr Z Z ?_
       first | exact Hd (by assumption) | exact HA hsb hlt hb | exact Hs hsb hi (bh hc) | trace_state)
     ·
      first
      | (cases hc; done)
      | (
       refine aK (aR (rg 2 rfl (mz false Z Z Z Z Z Z Z Z Z Z (pu false Z Z Z Z Z Z Z (.own Z Z) (.sl Z Z Z) (xj _ _).wide (xj _ _).ones (by show (_ + 1) * 16 ≤ _; rw [eS, List.length_map, List.length_take]; show _ ≤ 140737488355328; omega) rfl (rv Z Z (rn (ah (aR (rg 2 rfl (rn (ak ?_)))))))))))
       refine ⟨i + 1, By hi hlt hb, by omega, [0, 5], rfl, ?_⟩
       refine ⟨rfl, rfl, ?_, ?_, ?_⟩
       ·
        refine ⟨⟨?_, rfl⟩, ?_⟩
        · first | exact .inl rfl | exact .inr rfl | (refine .inl ?_; (first | refine ei ?_ | refine eb ?_ | refine nQ ?_ | refine gM ?_ | skip); first | exact bg hlt hl | exact bN hlt | rfl) | (refine .inr ?_; (first | refine ei ?_ | refine eb ?_ | refine nQ ?_ | refine gM ?_ | skip); first | exact bg hlt hl | exact bN hlt | rfl)
        refine ⟨⟨?_, rfl⟩, ?_⟩
        · first | exact .inl rfl | exact .inr rfl | (refine .inl ?_; (first | refine ei ?_ | refine eb ?_ | refine nQ ?_ | refine gM ?_ | skip); first | exact bg hlt hl | exact bN hlt | rfl) | (refine .inr ?_; (first | refine ei ?_ | refine eb ?_ | refine nQ ?_ | refine gM ?_ | skip); first | exact bg hlt hl | exact bN hlt | rfl)
        refine ⟨⟨?_, rfl⟩, ?_⟩
        · first | exact .inl rfl | exact .inr rfl | (refine .inl ?_; (first | refine ei ?_ | refine eb ?_ | refine nQ ?_ | refine gM ?_ | skip); first | exact bg hlt hl | exact bN hlt | rfl) | (refine .inr ?_; (first | refine ei ?_ | refine eb ?_ | refine nQ ?_ | refine gM ?_ | skip); first | exact bg hlt hl | exact bN hlt | rfl)
        refine ⟨⟨?_, rfl⟩, ?_⟩
        · first | exact .inl rfl | exact .inr rfl | (refine .inl ?_; (first | refine ei ?_ | refine eb ?_ | refine nQ ?_ | refine gM ?_ | skip); first | exact bg hlt hl | exact bN hlt | rfl) | (refine .inr ?_; (first | refine ei ?_ | refine eb ?_ | refine nQ ?_ | refine gM ?_ | skip); first | exact bg hlt hl | exact bN hlt | rfl)
        refine ⟨⟨?_, rfl⟩, ?_⟩
        · first | exact .inl rfl | exact .inr rfl | (refine .inl ?_; (first | refine ei ?_ | refine eb ?_ | refine nQ ?_ | refine gM ?_ | skip); first | exact bg hlt hl | exact bN hlt | rfl) | (refine .inr ?_; (first | refine ei ?_ | refine eb ?_ | refine nQ ?_ | refine gM ?_ | skip); first | exact bg hlt hl | exact bN hlt | rfl)
        refine ⟨⟨?_, rfl⟩, ?_⟩
        · first | exact .inl rfl | exact .inr rfl | (refine .inl ?_; (first | refine ei ?_ | refine eb ?_ | refine nQ ?_ | refine gM ?_ | skip); first | exact bg hlt hl | exact bN hlt | rfl) | (refine .inr ?_; (first | refine ei ?_ | refine eb ?_ | refine nQ ?_ | refine gM ?_ | skip); first | exact bg hlt hl | exact bN hlt | rfl)
        exact trivial
       ·
        refine ⟨⟨?_, rfl, rfl⟩, ?_⟩
        · first | exact ⟨_, rfl, .inl rfl⟩ | exact ⟨_, rfl, .inr rfl⟩ | (refine ⟨_, rfl, .inl ?_⟩; (first | refine ei ?_ | refine eb ?_ | refine nQ ?_ | refine gM ?_ | skip); first | exact bg hlt hl | exact bN hlt | rfl) | (refine ⟨_, rfl, .inr ?_⟩; (first | refine ei ?_ | refine eb ?_ | refine nQ ?_ | refine gM ?_ | skip); first | exact bg hlt hl | exact bN hlt | rfl)
        refine ⟨⟨?_, rfl, rfl⟩, ?_⟩
        · first | exact ⟨_, rfl, .inl rfl⟩ | exact ⟨_, rfl, .inr rfl⟩ | (refine ⟨_, rfl, .inl ?_⟩; (first | refine ei ?_ | refine eb ?_ | refine nQ ?_ | refine gM ?_ | skip); first | exact bg hlt hl | exact bN hlt | rfl) | (refine ⟨_, rfl, .inr ?_⟩; (first | refine ei ?_ | refine eb ?_ | refine nQ ?_ | refine gM ?_ | skip); first | exact bg hlt hl | exact bN hlt | rfl)
        exact trivial
       ·
        refine ⟨IJ rfl ?_ rfl, ?_⟩
        · first | rfl | (first | exact bg hlt hl | exact bN hlt | rfl)
        exact trivial))))
   ·
    first
    | (cases hc; done)
    | (
     refine aW ?_
     repeat (first | refine cO ?_ | refine bE rfl ?_)
     refine bI (ag (rg 3 rfl (rn (aT ?_))))
     repeat (first | refine an ?_ | refine ac ?_)
     refine rr Z Z ?_
     first | exact Hd (by assumption) | exact HA hsb hlt hb | exact Hs hsb hi (bh hc) | trace_state)))
end
def cn (l : List Pt) (p : Pt) (i : Nat) : Int := ((y8 p ((dZ l).take i) : Nat) : Int)
theorem Jb (l : List Pt) (p : Pt) : 0 = cn l p 0 := by simp [cn, y8]
theorem Gx (l : List Pt) (p : Pt) (i : Nat) : y8 p ((dZ l).take i) ≤ i := by
 have := List.countP_le_length (p := yC p) (l := (dZ l).take i)
 rw [List.length_take] at this; unfold y8; omega
theorem AR {l : List Pt} {p : Pt} {i : Nat} (h : i < l.length) (ht : yC p (gp l i, gp l (i + 1)) = false) : cn l p i = cn l p (i + 1) := by
 unfold cn y8; rw [ky h, List.countP_append]; simp [ht]
theorem wF {l : List Pt} {p : Pt} {i : Nat} (h : i < l.length) (hl : l.length ≤ maxLen) (ht : yC p (gp l i, gp l (i + 1)) = true) : IntKind.wrap .i64 (cn l p i + 1) = cn l p (i + 1) := by
 have h1 := Gx l p i
 have h2 : y8 p ((dZ l).take (i + 1)) = y8 p ((dZ l).take i) + 1 := by
  unfold y8; rw [ky h, List.countP_append]; simp [ht]
 unfold cn
 rw [bg (n := l.length) (by omega) hl, h2]
theorem Jn (p q : Int) : (sg p q == 1) = decide (sg p q > 0) := by
 rcases sD p q with h | h | h <;> rw [h] <;> rfl
theorem D9 {a b p : Pt} (ht : decide (a.2 > b.2) = false) : yC p (a, b) = ((decide (a.2 ≤ p.2) && decide (b.2 > p.2)) && (dH a.1 a.2 b.1 b.2 p.1 p.2 == 1)) := by
 simp only [decide_eq_false_iff_not] at ht
 unfold yC tn
 rw [show (dH a.1 a.2 b.1 b.2 p.1 p.2 == 1) = decide (dH a.1 a.2 b.1 b.2 p.1 p.2 > 0) from Jn _ _]
 generalize decide (dH a.1 a.2 b.1 b.2 p.1 p.2 > 0) = t
 simp only
 by_cases h1 : a.2 ≤ p.2
 ·
  by_cases h2 : b.2 > p.2
  ·
   have e : b.2 > a.2 := by omega
   have : ¬ p.2 < a.2 := by omega
   simp [h1, h2, e, this]
  ·
   have : ¬ p.2 < a.2 := by omega
   simp [h1, h2, this]
 ·
  have e1 : a.2 > p.2 := by omega
  have e2 : b.2 > p.2 := by omega
  simp [h1, e1, e2]
theorem FZ {a b p : Pt} (ma : my a = true) (mb : my b = true) (mp : my p = true) (hno : om a.1 a.2 b.1 b.2 p.1 p.2 = false) (ht : decide (a.2 > b.2) = true) : yC p (a, b) = ((decide (b.2 ≤ p.2) && decide (a.2 > p.2)) && (dH b.1 b.2 a.1 a.2 p.1 p.2 == 1)) := by
 rw [← GD ma mb mp hno]
 refine D9 ?_
 simp only [decide_eq_true_eq] at ht
 simp only [decide_eq_false_iff_not]; omega
theorem wo {x y z : Bool} (h : x = true) (k : y = true) (m : z = true) : ((x && y) && z) = true := by rw [h, k, m]; rfl
theorem wG {x y z : Bool} (h : x = false) : ((x && y) && z) = false := by rw [h]; rfl
theorem vU {x y z : Bool} (h : y = false) : ((x && y) && z) = false := by rw [h, Bool.and_false]; rfl
theorem wW {x y z : Bool} (h : z = false) : ((x && y) && z) = false := by rw [h, Bool.and_false]
theorem AH {l : List Pt} {p : Pt} {i : Nat} (hi : vK l p i) (hn : ¬ i < l.length) : (Int.tmod (cn l p i) 2 == 1) = pR l p := by
 rw [← zM hi hn]
 unfold Cb cn
 rw [show Int.tmod ((y8 p ((dZ l).take i) : Nat) : Int) 2 = ((y8 p ((dZ l).take i) % 2 : Nat) : Int) from rfl, Bool.eq_iff_iff]
 simp; omega
section
attribute [local irreducible] cg aM DP ai aP Decidable.decide Nat.mod om dH cn pR vK yC
theorem B3 {l : List Pt} {p : Pt} (hl : l.length ≤ maxLen) (hm : ∀ q ∈ l, my q = true) (hp : my p = true) : ai Tryz.prog 160 [.sl (rows l), .agg [.int .i64 (p).1, .int .i64 (p).2]] (· = .bool (pR l p)) := by
 refine cf Tryz.func160 ?_
 refine ag (rb Z Z (rv Z Z (rn (ag (rv Z Z (rn (aS (ag (rv Z Z (rn (aB ?_)))))))))))
 refine eQ (ι := Nat) (fun i => ⟨[(0, .sl (rows l)), (3, .ptr 0 0), (4, .bool false), (5, .int .i64 (cn l p i)), (6, .int .i64 (i : Int))], [(0, 0, .int .i64 p.1), (0, 1, .int .i64 p.2)], [], 1⟩) (fun i => vK l p i) (fun i => l.length - i) (0) (C7 l p) ?_ (fun _ => Nat.zero_le _) (fun i hi => ?_)
 · (refine ⟨Nat.le_of_ble_eq_true rfl, ?_, ?_, ?_⟩ <;> repeat' (first | exact trivial | rfl | refine ⟨⟨?_, rfl⟩, ?_⟩ | refine ⟨⟨?_, rfl, rfl⟩, ?_⟩ | ((first | refine ei ?_ | refine eh ?_ | refine eb ?_ | refine oh ?_ | skip); exact Jb l p)))
 refine aS (ag (rg 4 rfl (rn (ak ?_))))
 refine fB rfl (fun hc => ?_) (fun hc => ?_)
 ·
  first
  | (cases hc; done)
  | (
   refine aK (aS (aB (aS ?_)))
   (have hlt := jE hc) <;> (
   refine aR (rg 2 rfl (ri Z Z Z Z Z Z (Int.natCast_nonneg _) (iT hlt) (bz l) (rv Z Z (ra Z Z Z (rs Z Z Z Z Z Z Z (rn (ag (rg 2 rfl (nU rfl (mB rfl (rE (k := 1) (by omega))) (rg 2 rfl (nU rfl (lb Z Z (kZ (by omega)) (fx l (i + 1))) (ri Z Z Z Z Z Z (Int.natCast_nonneg _) (pJ (by omega) _) (bz l) (rv Z Z (ra Z Z Z (rs Z Z Z Z Z Z Z (rn (ag (rg 3 rfl (bt Z Z Z HC (rv Z Z (rn (aS (ag (rv Z Z (rn (ak ?_))))))))))))))))))))))))))
   refine fB rfl (fun hc => ?_) (fun hc => ?_)
   ·
    first
    | (cases hc; done)
    | (
     refine ag (rv Z Z (rn (aT ?_)))
     repeat (first | refine an ?_ | refine ac ?_)
     refine rr Z Z ?_
     first | exact AF hlt (by assumption) | exact eb (AH hi (bh hc)) | trace_state)
   ·
    first
    | (cases hc; done)
    | (
     refine aK (aS ?_)
     (have hno : om (gp l i).1 (gp l i).2 (gp l (i + 1)).1 (gp l (i + 1)).2 p.1 p.2 = false := (by assumption)) <;> (
     refine aR (rv Z Z (ra Z Z Z (rs Z Z Z Z Z Z Z (rn (ag (rv Z Z (ra Z Z Z (rs Z Z Z Z Z Z Z (rn (aS (ag (rg 5 rfl (rn (ak ?_))))))))))))))
     refine fB rfl (fun hc => ?_) (fun hc => ?_)
     ·
      first
      | (cases hc; done)
      | (
       refine ag (rv Z Z (rs Z Z Z Z Z Z Z (rn (aR (rv Z Z (rs Z Z Z Z Z Z Z (rn (aS ?_))))))))
       (first | (have q0 : decide ((gp l i).2 > (gp l (i + 1)).2) = true := (by assumption); have htg := FZ (hm _ (oE (by omega) i)) (hm _ (oE (by omega) (i + 1))) hp hno q0) | (have q0 : decide ((gp l i).2 > (gp l (i + 1)).2) = false := (by assumption); have htg := D9 (p := p) q0)) <;> (
       refine aR (rg 6 rfl ?_)
       (iterate 5 all_goals (first | refine d6 (rv Z Z ?_) | refine d7 ?_ | refine d8 ?_ | refine gs Z Z Z Z Z (fun hg => rv Z Z ?_) fun hg => ?_)) <;> (
       refine rg 2 rfl ?_
       (iterate 3 all_goals (first | refine d6 (rv Z Z ?_) | refine d7 ?_ | refine d8 ?_ | refine gs Z Z Z Z Z (fun hg => rv Z Z ?_) fun hg => ?_)) <;> (
       (first | refine d6 (bt Z Z Z iu (?_)) | refine d7 ?_ | refine d8 ?_ | refine gs Z Z Z Z Z (fun hg => bt Z Z Z iu (?_)) fun hg => ?_) <;> (
       ((first | refine d6 (rv Z Z ?_) | refine d7 ?_ | refine d8 ?_ | refine gs Z Z Z Z Z (fun hg => rv Z Z ?_) fun hg => ?_)) <;> (
       refine rv Z Z (rn (ak ?_))
       refine fB rfl (fun hc => ?_) (fun hc => ?_)
       ·
        first
        | (cases hc; done)
        | (
         refine aR (rg 3 rfl (rn (ah (aR (rg 3 rfl (rn (ak ?_)))))))
         refine ⟨i + 1, iP hi hlt hno, by omega, ?_⟩
         (refine ⟨Nat.le_of_ble_eq_true rfl, ?_, ?_, ?_⟩ <;> repeat' (first | exact trivial | rfl | refine ⟨⟨?_, rfl⟩, ?_⟩ | refine ⟨⟨?_, rfl, rfl⟩, ?_⟩ | ((first | refine ei ?_ | refine eh ?_ | refine eb ?_ | refine oh ?_ | skip); first | exact bg hlt hl | exact AR hlt (htg.trans (by first | exact wG (by assumption) | exact vU (by assumption) | exact wW (by assumption))) | exact wF hlt hl (htg.trans (wo (by assumption) (by assumption) (by assumption)))))))
       ·
        first
        | (cases hc; done)
        | (
         refine aK (ah (aR (rg 3 rfl (rn (ak ?_)))))
         refine ⟨i + 1, iP hi hlt hno, by omega, ?_⟩
         (refine ⟨Nat.le_of_ble_eq_true rfl, ?_, ?_, ?_⟩ <;> repeat' (first | exact trivial | rfl | refine ⟨⟨?_, rfl⟩, ?_⟩ | refine ⟨⟨?_, rfl, rfl⟩, ?_⟩ | ((first | refine ei ?_ | refine eh ?_ | refine eb ?_ | refine oh ?_ | skip); first | exact bg hlt hl | exact AR hlt (htg.trans (by first | exact wG (by assumption) | exact vU (by assumption) | exact wW (by assumption))) | exact wF hlt hl (htg.trans (wo (by assumption) (by assumption) (by assumption)))))))))))))
     ·
      first
      | (cases hc; done)
      | (
       refine aK (aS ?_)
       (first | (have q0 : decide ((gp l i).2 > (gp l (i + 1)).2) = true := (by assumption); have htg := FZ (hm _ (oE (by omega) i)) (hm _ (oE (by omega) (i + 1))) hp hno q0) | (have q0 : decide ((gp l i).2 > (gp l (i + 1)).2) = false := (by assumption); have htg := D9 (p := p) q0)) <;> (
       refine aR (rg 6 rfl ?_)
       (iterate 5 all_goals (first | refine d6 (rv Z Z ?_) | refine d7 ?_ | refine d8 ?_ | refine gs Z Z Z Z Z (fun hg => rv Z Z ?_) fun hg => ?_)) <;> (
       refine rg 2 rfl ?_
       (iterate 3 all_goals (first | refine d6 (rv Z Z ?_) | refine d7 ?_ | refine d8 ?_ | refine gs Z Z Z Z Z (fun hg => rv Z Z ?_) fun hg => ?_)) <;> (
       (first | refine d6 (bt Z Z Z iu (?_)) | refine d7 ?_ | refine d8 ?_ | refine gs Z Z Z Z Z (fun hg => bt Z Z Z iu (?_)) fun hg => ?_) <;> (
       ((first | refine d6 (rv Z Z ?_) | refine d7 ?_ | refine d8 ?_ | refine gs Z Z Z Z Z (fun hg => rv Z Z ?_) fun hg => ?_)) <;> (
       refine rv Z Z (rn (ak ?_))
       refine fB rfl (fun hc => ?_) (fun hc => ?_)
       ·
        first
        | (cases hc; done)
        | (
         refine aR (rg 3 rfl (rn (ah (aR (rg 3 rfl (rn (ak ?_)))))))
         refine ⟨i + 1, iP hi hlt hno, by omega, ?_⟩
         (refine ⟨Nat.le_of_ble_eq_true rfl, ?_, ?_, ?_⟩ <;> repeat' (first | exact trivial | rfl | refine ⟨⟨?_, rfl⟩, ?_⟩ | refine ⟨⟨?_, rfl, rfl⟩, ?_⟩ | ((first | refine ei ?_ | refine eh ?_ | refine eb ?_ | refine oh ?_ | skip); first | exact bg hlt hl | exact AR hlt (htg.trans (by first | exact wG (by assumption) | exact vU (by assumption) | exact wW (by assumption))) | exact wF hlt hl (htg.trans (wo (by assumption) (by assumption) (by assumption)))))))
       ·
        first
        | (cases hc; done)
        | (
         refine aK (ah (aR (rg 3 rfl (rn (ak ?_)))))
         refine ⟨i + 1, iP hi hlt hno, by omega, ?_⟩
         (refine ⟨Nat.le_of_ble_eq_true rfl, ?_, ?_, ?_⟩ <;> repeat' (first | exact trivial | rfl | refine ⟨⟨?_, rfl⟩, ?_⟩ | refine ⟨⟨?_, rfl, rfl⟩, ?_⟩ | ((first | refine ei ?_ | refine eh ?_ | refine eb ?_ | refine oh ?_ | skip); first | exact bg hlt hl | exact AR hlt (htg.trans (by first | exact wG (by assumption) | exact vU (by assumption) | exact wW (by assumption))) | exact wF hlt hl (htg.trans (wo (by assumption) (by assumption) (by assumption)))))))))))))))))
 ·
  first
  | (cases hc; done)
  | (
   refine aW ?_
   repeat (first | refine cO ?_ | refine bE rfl ?_)
   refine bI (ag (rg 4 rfl (rn (aT ?_))))
   repeat (first | refine an ?_ | refine ac ?_)
   refine rr Z Z ?_
   first | exact AF hlt (by assumption) | exact eb (AH hi (bh hc)) | trace_state)
end
def Gf (s a : Bool) (l : List Pt) (d : Pt) : AV := match s, a with
 | true, true => .tup [.sl (rows (l.map (mv d))), .nilI]
 | true, false => .tup [.sl [], .iface 55 (.int .i64 11)]
 | false, _ => .tup [.sl [], .iface 55 (.int .i64 1)]
theorem Gv {l : List Pt} {d : Pt} (h : l.all (sq d) = true) : l.map (FL d) = l.map (mv d) :=
 List.map_congr_left fun p hp => (Do (List.all_eq_true.1 h p hp)).1
theorem E4 {l : List Pt} {d : Pt} {s a : Bool} (hl : l.length ≤ maxLen) (hs : bT l = s) (ha : l.all (sq d) = a) : ai Tryz.prog 86 [.sl (rows l), .agg [.int .i64 d.1, .int .i64 d.2]] (· = Gf s a l d) := by
 have h := GR (d := d) hl
 unfold pN at h
 rw [hs, ha] at h
 cases s with
 | false => exact h
 | true =>
  cases a with
  | false => exact h
  | true => rw [Gv ha] at h; exact h
theorem Iw {l : List Pt} (hl : l.length ≤ maxLen) (h : pc l) : ai Tryz.prog 52 [.sl (rows l)] (· = .tup [.agg [.int .i64 (box l l.length).1, .int .i64 (box l l.length).2.1, .int .i64 (box l l.length).2.2.1, .int .i64 (box l l.length).2.2.2], .bool true]) := by
 have hr := Ge hl
 have ha : d9 l = true := List.all_eq_true.2 h.may
 rcases JZ l with ⟨_, _, h1, h2⟩ | ⟨_, h1 | h1⟩
 · unfold BU at hr; rw [h1, h2] at hr; exact hr
 · rw [ha] at h1; cases h1
 · have := h.n3; rw [h1] at this; simp at this
end Go.Proofs.YtbkomicjhfldmaaGreatDoor
