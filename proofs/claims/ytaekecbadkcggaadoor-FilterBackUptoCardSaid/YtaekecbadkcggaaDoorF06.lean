/- What Go's library answers, by the shelf's contracts: strconv.ParseInt, strconv.FormatInt, strings.Join. The layings were printed by a tool of the kit. -/
import Derived.Test.YtaekecbadkcggaaDoorPwE
import Derived.Test.YtaekecbadkcggaaDoorPvT
import Derived.Shelf.Strconv.ParseIntPublic10
import Derived.Shelf.Strconv.Itoa4
import Derived.Shelf.Strings.OnBuilder
import Derived.Lib.AppendIntMem
import Derived.Lib.AtoiErrMem
import Derived.Lib.ItoaLen
namespace Go.Proofs.YtaekecbadkcggaaDoor
open Go.Pv
open Go.RowKit (Below)
set_option linter.unusedSimpArgs false
set_option linter.unusedVariables false
set_option linter.unusedSectionVars false
set_option maxRecDepth 100000
set_option maxHeartbeats 4000000

def Tryd.lays173_ren : Go.Shelf.Ren := ⟨fun | 173 => 55 | 246 => 66 | 283 => 82 | 284 => 83 | 285 => 84 | 286 => 85 | 129 => 96 | 317 => 95 | 318 => 97 | 319 => 98 | 320 => 99 | 337 => 104 | 338 => 105 | n => n, fun | 2 => 2 | 3 => 3 | 9 => 9 | 4 => 4 | 171 => 113 | 0 => 0 | 53 => 84 | 37 => 87 | 5 => 5 | 173 => 116 | 212 => 128 | 51 => 129 | 20 => 20 | 213 => 130 | 46 => 103 | 232 => 142 | 233 => 143 | n => n, fun | 17 => 3 | 18 => 4 | 19 => 5 | n => n⟩
theorem Tryd.lays173 : Go.Proofs.LaysM.n173 Tryd.prog Tryd.lays173_ren where
  mixed := by kernel_rfl
  f129 := Tryd.func96.trans (congrArg some (by kernel_rfl))
  f173 := Tryd.func55.trans (congrArg some (by kernel_rfl))
  f246 := Tryd.func66.trans (congrArg some (by kernel_rfl))
  f283 := Tryd.func82.trans (congrArg some (by kernel_rfl))
  f284 := Tryd.func83.trans (congrArg some (by kernel_rfl))
  f285 := Tryd.func84.trans (congrArg some (by kernel_rfl))
  f286 := Tryd.func85.trans (congrArg some (by kernel_rfl))
  f317 := Tryd.func95.trans (congrArg some (by kernel_rfl))
  f318 := Tryd.func97.trans (congrArg some (by kernel_rfl))
  f319 := Tryd.func98.trans (congrArg some (by kernel_rfl))
  f320 := Tryd.func99.trans (congrArg some (by kernel_rfl))
  f337 := Tryd.func104.trans (congrArg some (by kernel_rfl))
  f338 := Tryd.func105.trans (congrArg some (by kernel_rfl))
  t0 := Tryd.underlying0
  a0 := Tryd.isAgg0
  z0 := Tryd.sizeOf0
  v0 := Tryd.zeroValue0
  t2 := Tryd.underlying2
  a2 := Tryd.isAgg2
  z2 := Tryd.sizeOf2
  v2 := Tryd.zeroValue2
  t3 := Tryd.underlying3
  a3 := Tryd.isAgg3
  z3 := Tryd.sizeOf3
  v3 := Tryd.zeroValue3
  t4 := Tryd.underlying4
  a4 := Tryd.isAgg4
  z4 := Tryd.sizeOf4
  v4 := Tryd.zeroValue4
  t5 := Tryd.underlying5
  a5 := Tryd.isAgg5
  z5 := Tryd.sizeOf5
  v5 := Tryd.zeroValue5
  t9 := Tryd.underlying9
  a9 := Tryd.isAgg9
  z9 := Tryd.sizeOf9
  v9 := Tryd.zeroValue9
  t20 := Tryd.underlying20
  a20 := Tryd.isAgg20
  z20 := Tryd.sizeOf20
  v20 := Tryd.zeroValue20
  t37 := Tryd.underlying87
  a37 := Tryd.isAgg87
  z37 := Tryd.sizeOf87
  v37 := Tryd.zeroValue87
  t46 := Tryd.underlying103
  a46 := Tryd.isAgg103
  z46 := Tryd.sizeOf103
  v46 := Tryd.zeroValue103
  t51 := Tryd.underlying129
  a51 := Tryd.isAgg129
  z51 := Tryd.sizeOf129
  v51 := Tryd.zeroValue129
  t53 := Tryd.underlying84
  a53 := Tryd.isAgg84
  z53 := Tryd.sizeOf84
  v53 := Tryd.zeroValue84
  t171 := Tryd.underlying113
  a171 := Tryd.isAgg113
  z171 := Tryd.sizeOf113
  v171 := Tryd.zeroValue113
  t173 := Tryd.underlying116
  a173 := Tryd.isAgg116
  z173 := Tryd.sizeOf116
  v173 := Tryd.zeroValue116
  t212 := Tryd.underlying128
  a212 := Tryd.isAgg128
  z212 := Tryd.sizeOf128
  v212 := Tryd.zeroValue128
  t213 := Tryd.underlying130
  a213 := Tryd.isAgg130
  z213 := Tryd.sizeOf130
  t232 := Tryd.underlying142
  a232 := Tryd.isAgg142
  z232 := Tryd.sizeOf142
  v232 := Tryd.zeroValue142
  t233 := Tryd.underlying143
  a233 := Tryd.isAgg143
  z233 := Tryd.sizeOf143
  v233 := Tryd.zeroValue143
  g17 := by kernel_rfl
  g18 := by kernel_rfl
  g19 := by kernel_rfl
  i0 := by kernel_rfl
  i2 := by kernel_rfl
  i3 := by kernel_rfl
  i4 := by kernel_rfl
  i5 := by kernel_rfl
  i9 := by kernel_rfl
  i20 := by kernel_rfl
  i37 := by kernel_rfl
  i46 := by kernel_rfl
  i51 := by kernel_rfl
  i53 := by kernel_rfl
  i171 := by kernel_rfl
  i173 := by kernel_rfl
  i212 := by kernel_rfl
  i232 := by kernel_rfl
  i233 := by kernel_rfl
  m17 := by kernel_rfl
  m18 := by kernel_rfl
  m19 := by kernel_rfl
def Tryd.lays174_ren : Go.Shelf.Ren := ⟨fun | 174 => 47 | 247 => 59 | 245 => 60 | 287 => 70 | 279 => 71 | 280 => 72 | 281 => 73 | 282 => 74 | 321 => 88 | 322 => 89 | 316 => 90 | 171 => 92 | 205 => 91 | 243 => 101 | 246 => 66 | 283 => 82 | 284 => 83 | 285 => 84 | 286 => 85 | 129 => 96 | 317 => 95 | 318 => 97 | 319 => 98 | 320 => 99 | 337 => 104 | 338 => 105 | n => n, fun | 9 => 9 | 3 => 3 | 2 => 2 | 75 => 25 | 85 => 82 | 4 => 4 | 167 => 100 | 5 => 5 | 53 => 84 | 175 => 101 | 46 => 103 | 168 => 104 | 37 => 87 | 0 => 0 | 210 => 123 | 21 => 21 | 127 => 97 | 145 => 137 | 143 => 135 | 171 => 113 | 173 => 116 | 212 => 128 | 51 => 129 | 20 => 20 | 213 => 130 | 232 => 142 | 233 => 143 | 80 => 93 | n => n, fun | 15 => 0 | 16 => 1 | 17 => 3 | 18 => 4 | 19 => 5 | n => n⟩
theorem Tryd.lays174 : Go.Proofs.LaysC.n174 Tryd.prog Tryd.lays174_ren where
  mixed := by kernel_rfl
  f129 := Tryd.func96.trans (congrArg some (by kernel_rfl))
  f171 := Tryd.func92.trans (congrArg some (by kernel_rfl))
  f174 := Tryd.func47.trans (congrArg some (by kernel_rfl))
  f205 := Tryd.func91.trans (congrArg some (by kernel_rfl))
  f243 := Tryd.func101.trans (congrArg some (by kernel_rfl))
  f245 := Tryd.func60.trans (congrArg some (by kernel_rfl))
  f246 := Tryd.func66.trans (congrArg some (by kernel_rfl))
  f247 := Tryd.func59.trans (congrArg some (by kernel_rfl))
  f279 := Tryd.func71.trans (congrArg some (by kernel_rfl))
  f280 := Tryd.func72.trans (congrArg some (by kernel_rfl))
  f281 := Tryd.func73.trans (congrArg some (by kernel_rfl))
  f282 := Tryd.func74.trans (congrArg some (by kernel_rfl))
  f283 := Tryd.func82.trans (congrArg some (by kernel_rfl))
  f284 := Tryd.func83.trans (congrArg some (by kernel_rfl))
  f285 := Tryd.func84.trans (congrArg some (by kernel_rfl))
  f286 := Tryd.func85.trans (congrArg some (by kernel_rfl))
  f287 := Tryd.func70.trans (congrArg some (by kernel_rfl))
  f316 := Tryd.func90.trans (congrArg some (by kernel_rfl))
  f317 := Tryd.func95.trans (congrArg some (by kernel_rfl))
  f318 := Tryd.func97.trans (congrArg some (by kernel_rfl))
  f319 := Tryd.func98.trans (congrArg some (by kernel_rfl))
  f320 := Tryd.func99.trans (congrArg some (by kernel_rfl))
  f321 := Tryd.func88.trans (congrArg some (by kernel_rfl))
  f322 := Tryd.func89.trans (congrArg some (by kernel_rfl))
  f337 := Tryd.func104.trans (congrArg some (by kernel_rfl))
  f338 := Tryd.func105.trans (congrArg some (by kernel_rfl))
  t0 := Tryd.underlying0
  a0 := Tryd.isAgg0
  z0 := Tryd.sizeOf0
  v0 := Tryd.zeroValue0
  t2 := Tryd.underlying2
  a2 := Tryd.isAgg2
  z2 := Tryd.sizeOf2
  v2 := Tryd.zeroValue2
  t3 := Tryd.underlying3
  a3 := Tryd.isAgg3
  z3 := Tryd.sizeOf3
  v3 := Tryd.zeroValue3
  t4 := Tryd.underlying4
  a4 := Tryd.isAgg4
  z4 := Tryd.sizeOf4
  v4 := Tryd.zeroValue4
  t5 := Tryd.underlying5
  a5 := Tryd.isAgg5
  z5 := Tryd.sizeOf5
  v5 := Tryd.zeroValue5
  t9 := Tryd.underlying9
  a9 := Tryd.isAgg9
  z9 := Tryd.sizeOf9
  v9 := Tryd.zeroValue9
  t20 := Tryd.underlying20
  a20 := Tryd.isAgg20
  z20 := Tryd.sizeOf20
  v20 := Tryd.zeroValue20
  t21 := Tryd.underlying21
  a21 := Tryd.isAgg21
  z21 := Tryd.sizeOf21
  v21 := Tryd.zeroValue21
  t37 := Tryd.underlying87
  a37 := Tryd.isAgg87
  z37 := Tryd.sizeOf87
  v37 := Tryd.zeroValue87
  t46 := Tryd.underlying103
  a46 := Tryd.isAgg103
  z46 := Tryd.sizeOf103
  v46 := Tryd.zeroValue103
  t51 := Tryd.underlying129
  a51 := Tryd.isAgg129
  z51 := Tryd.sizeOf129
  v51 := Tryd.zeroValue129
  t53 := Tryd.underlying84
  a53 := Tryd.isAgg84
  z53 := Tryd.sizeOf84
  v53 := Tryd.zeroValue84
  t75 := Tryd.underlying25
  a75 := Tryd.isAgg25
  z75 := Tryd.sizeOf25
  v75 := Tryd.zeroValue25
  t85 := Tryd.underlying82
  a85 := Tryd.isAgg82
  z85 := Tryd.sizeOf82
  v85 := Tryd.zeroValue82
  t127 := Tryd.underlying97
  a127 := Tryd.isAgg97
  z127 := Tryd.sizeOf97
  v127 := Tryd.zeroValue97
  t143 := Tryd.underlying135
  a143 := Tryd.isAgg135
  z143 := Tryd.sizeOf135
  v143 := Tryd.zeroValue135
  t145 := Tryd.underlying137
  a145 := Tryd.isAgg137
  z145 := Tryd.sizeOf137
  v145 := Tryd.zeroValue137
  t167 := Tryd.underlying100
  a167 := Tryd.isAgg100
  z167 := Tryd.sizeOf100
  v167 := Tryd.zeroValue100
  t168 := Tryd.underlying104
  a168 := Tryd.isAgg104
  z168 := Tryd.sizeOf104
  v168 := Tryd.zeroValue104
  t171 := Tryd.underlying113
  a171 := Tryd.isAgg113
  z171 := Tryd.sizeOf113
  v171 := Tryd.zeroValue113
  t173 := Tryd.underlying116
  a173 := Tryd.isAgg116
  z173 := Tryd.sizeOf116
  v173 := Tryd.zeroValue116
  t175 := Tryd.underlying101
  a175 := Tryd.isAgg101
  z175 := Tryd.sizeOf101
  v175 := Tryd.zeroValue101
  t210 := Tryd.underlying123
  a210 := Tryd.isAgg123
  z210 := Tryd.sizeOf123
  v210 := Tryd.zeroValue123
  t212 := Tryd.underlying128
  a212 := Tryd.isAgg128
  z212 := Tryd.sizeOf128
  v212 := Tryd.zeroValue128
  t213 := Tryd.underlying130
  a213 := Tryd.isAgg130
  z213 := Tryd.sizeOf130
  t232 := Tryd.underlying142
  a232 := Tryd.isAgg142
  z232 := Tryd.sizeOf142
  v232 := Tryd.zeroValue142
  t233 := Tryd.underlying143
  a233 := Tryd.isAgg143
  z233 := Tryd.sizeOf143
  v233 := Tryd.zeroValue143
  g15 := by kernel_rfl
  g16 := by kernel_rfl
  g17 := by kernel_rfl
  g18 := by kernel_rfl
  g19 := by kernel_rfl
  t80 := Tryd.underlying93
  a80 := Tryd.isAgg93
  z80 := Tryd.sizeOf93
  v80 := Tryd.zeroValue93
  i0 := by kernel_rfl
  i2 := by kernel_rfl
  i3 := by kernel_rfl
  i4 := by kernel_rfl
  i5 := by kernel_rfl
  i9 := by kernel_rfl
  i20 := by kernel_rfl
  i21 := by kernel_rfl
  i37 := by kernel_rfl
  i46 := by kernel_rfl
  i51 := by kernel_rfl
  i53 := by kernel_rfl
  i75 := by kernel_rfl
  i80 := by kernel_rfl
  i85 := by kernel_rfl
  i127 := by kernel_rfl
  i143 := by kernel_rfl
  i145 := by kernel_rfl
  i167 := by kernel_rfl
  i168 := by kernel_rfl
  i171 := by kernel_rfl
  i173 := by kernel_rfl
  i175 := by kernel_rfl
  i210 := by kernel_rfl
  i212 := by kernel_rfl
  i232 := by kernel_rfl
  i233 := by kernel_rfl
  m15 := by kernel_rfl
  m16 := by kernel_rfl
  m17 := by kernel_rfl
  m18 := by kernel_rfl
  m19 := by kernel_rfl
  c0 := by kernel_rfl
  c2 := by kernel_rfl
  c3 := by kernel_rfl
  c4 := by kernel_rfl
  c5 := by kernel_rfl
  c9 := by kernel_rfl
  c20 := by kernel_rfl
  c21 := by kernel_rfl
  c37 := by kernel_rfl
  c46 := by kernel_rfl
  c51 := by kernel_rfl
  c53 := by kernel_rfl
  c75 := by kernel_rfl
  c80 := by kernel_rfl
  c85 := by kernel_rfl
  c127 := by kernel_rfl
  c143 := by kernel_rfl
  c145 := by kernel_rfl
  c167 := by kernel_rfl
  c168 := by kernel_rfl
  c171 := by kernel_rfl
  c173 := by kernel_rfl
  c175 := by kernel_rfl
  c210 := by kernel_rfl
  c212 := by kernel_rfl
  c213 := by kernel_rfl
  c232 := by kernel_rfl
  c233 := by kernel_rfl
def Tryd.lays156_ren : Go.Shelf.Ren := ⟨fun | 156 => 41 | 165 => 52 | 166 => 53 | 169 => 54 | 240 => 64 | 241 => 65 | 276 => 80 | 277 => 81 | n => n, fun | 31 => 67 | 9 => 9 | 3 => 3 | 4 => 4 | 0 => 0 | 20 => 20 | 72 => 89 | 76 => 91 | 70 => 86 | 37 => 87 | 75 => 25 | 127 => 97 | 164 => 109 | 5 => 5 | 80 => 93 | n => n, fun | n => n⟩
theorem Tryd.lays156 : Go.Proofs.Lays.n156 Tryd.prog Tryd.lays156_ren where
  mixed := by kernel_rfl
  f156 := Tryd.func41.trans (congrArg some (by kernel_rfl))
  f165 := Tryd.func52.trans (congrArg some (by kernel_rfl))
  f166 := Tryd.func53.trans (congrArg some (by kernel_rfl))
  f169 := Tryd.func54.trans (congrArg some (by kernel_rfl))
  f240 := Tryd.func64.trans (congrArg some (by kernel_rfl))
  f241 := Tryd.func65.trans (congrArg some (by kernel_rfl))
  f276 := Tryd.func80.trans (congrArg some (by kernel_rfl))
  f277 := Tryd.func81.trans (congrArg some (by kernel_rfl))
  t0 := Tryd.underlying0
  a0 := Tryd.isAgg0
  z0 := Tryd.sizeOf0
  v0 := Tryd.zeroValue0
  t3 := Tryd.underlying3
  a3 := Tryd.isAgg3
  z3 := Tryd.sizeOf3
  v3 := Tryd.zeroValue3
  t4 := Tryd.underlying4
  a4 := Tryd.isAgg4
  z4 := Tryd.sizeOf4
  v4 := Tryd.zeroValue4
  t9 := Tryd.underlying9
  a9 := Tryd.isAgg9
  z9 := Tryd.sizeOf9
  v9 := Tryd.zeroValue9
  t20 := Tryd.underlying20
  a20 := Tryd.isAgg20
  z20 := Tryd.sizeOf20
  v20 := Tryd.zeroValue20
  t31 := Tryd.underlying67
  a31 := Tryd.isAgg67
  z31 := Tryd.sizeOf67
  v31 := Tryd.zeroValue67
  t37 := Tryd.underlying87
  a37 := Tryd.isAgg87
  z37 := Tryd.sizeOf87
  v37 := Tryd.zeroValue87
  t70 := Tryd.underlying86
  a70 := Tryd.isAgg86
  z70 := Tryd.sizeOf86
  v70 := Tryd.zeroValue86
  t72 := Tryd.underlying89
  a72 := Tryd.isAgg89
  z72 := Tryd.sizeOf89
  v72 := Tryd.zeroValue89
  t75 := Tryd.underlying25
  a75 := Tryd.isAgg25
  z75 := Tryd.sizeOf25
  v75 := Tryd.zeroValue25
  t76 := Tryd.underlying91
  a76 := Tryd.isAgg91
  z76 := Tryd.sizeOf91
  v76 := Tryd.zeroValue91
  t127 := Tryd.underlying97
  a127 := Tryd.isAgg97
  z127 := Tryd.sizeOf97
  v127 := Tryd.zeroValue97
  t164 := Tryd.underlying109
  a164 := Tryd.isAgg109
  z164 := Tryd.sizeOf109
  v164 := Tryd.zeroValue109
def Tryd.extra156_ren : Go.Shelf.Ren := ⟨fun | 156 => 41 | 165 => 52 | 166 => 53 | 169 => 54 | 240 => 64 | 241 => 65 | 276 => 80 | 277 => 81 | n => n, fun | 31 => 67 | 9 => 9 | 3 => 3 | 4 => 4 | 0 => 0 | 20 => 20 | 72 => 89 | 76 => 91 | 70 => 86 | 37 => 87 | 75 => 25 | 127 => 97 | 164 => 109 | 5 => 5 | 80 => 93 | n => n, fun | n => n⟩
theorem Tryd.extra156 : Go.Proofs.Builder.Extra Tryd.prog Tryd.extra156_ren where
  sizeBuilder := by kernel_rfl
  liesBuilder := by kernel_rfl
  t5 := Tryd.underlying5
  a5 := Tryd.isAgg5
  z5 := Tryd.sizeOf5
  v5 := Tryd.zeroValue5
  infoByte := by kernel_rfl
  cellsByte := by kernel_rfl
  sizeByte := by kernel_rfl
  neB5 := by decide

theorem pcall_of {P : Program} {f : FuncId} {args : List AV} {K : AV → Prop} (hg : goes P f = true)
    (h : ∀ w top vals, LaidAt w (G.ofTop top) → RepL w (G.ofTop top) args vals → Calls P f vals.toArray w fun e w' => ∃ v r, e = .returned v ∧ K r ∧ Rep w' (G.ofTop top) r v ∧ Below w.heap.size w w') : PCall P f args K :=
  ⟨hg, fun w top vals ht hl hr => (h w top vals hl hr).mono fun e w' ⟨v, r, h1, h2, h3, h4⟩ => ⟨v, r, top, h1, h2, h3, h4, fun _ _ => rfl, fun b hb => ht b (Nat.le_trans h4.size hb)⟩⟩
theorem laid_err {w : World} {g : G} (h : LaidAt w g) {b : Nat} (hb : (b, errO) ∈ LAY) : ∃ ev, w.cell? ⟨b, 0, none⟩ = some ev ∧ (ev = .nilIface ∨ ∃ te pe, ev = .iface te pe) := by
  obtain ⟨_, o, h2, cs, t, fr, v, rfl, h3, h4⟩ := h _ hb
  exact ⟨v, by simp [World.cell?, h2, h3], h4⟩
/-- A number that is written: what strconv.ParseInt says of a text. -/
def pInt (s : Str) : Option Int := match Lib.parseIntB 64 s with
  | .ok v => some v
  | _ => none
def dParseInt (fu : Nat) (s : Str) : Option (Option Int) := if s.length ≤ 281474976710656 then some (pInt s) else none
def pIv : Option Int → AV
  | some v => .tup [.int .i64 v, .nilI]
  | none => .tup [.any, .iface 104 .any]
theorem dParseInt_l {fu : Nat} {s : Str} {r : Option Int} (h : dParseInt fu s = some r) : PCall Tryd.prog 47 [.str (sB s), .int .i64 10, .int .i64 64] (· = pIv r) := by
  unfold dParseInt at h
  split at h
  · rename_i hs
    have h := Option.some.inj h
    subst h
    refine pcall_of (by kernel_rfl) fun w top vals hl hr => ?_
    obtain ⟨v0, _, rfl, rfl, v1, _, rfl, rfl, v2, _, rfl, rfl, rfl⟩ := hr
    have hsz : (sB s).size = s.length := by simp [sB, ByteArray.size]
    have hd : (sB s).data.toList = s := by simp [sB]
    unfold pInt
    rcases hp : Lib.parseIntB 64 s with v | _ | _
    · refine (Any.strconv_ParseInt_10_at64_ok Tryd.lays174 (sB s) (by omega) v (by rw [hd]; exact hp) w).mono fun e w' ⟨he, hw⟩ => ?_
      refine ⟨_, _, he, rfl, ⟨[.int .i64 v, .nilIface], rfl, _, _, rfl, rfl, _, _, rfl, rfl, rfl⟩, ?_⟩
      rcases hw with rfl | ⟨t, rfl⟩
      · exact Below.refl _ _
      · exact Lib.bytesWorld_below w _ t
    · obtain ⟨ev, h1, h2⟩ := laid_err hl (b := Tryd.lays174_ren.g 15) (by simp [LAY, Tryd.lays174_ren])
      refine (Any.strconv_ParseInt_10_at64_syntax Tryd.lays174 (sB s) (by omega) (by rw [hd]; exact hp) ev w h1 h2).mono fun e w' ⟨N, he, _, _, hb⟩ => ?_
      exact ⟨_, _, he, rfl, ⟨[.int .i64 0, .iface 104 (.pointer (some ⟨N, 0, none⟩))], rfl, _, _, rfl, trivial, _, _, rfl, ⟨_, rfl, trivial⟩, rfl⟩, hb⟩
    · obtain ⟨ev, h1, h2⟩ := laid_err hl (b := Tryd.lays174_ren.g 16) (by simp [LAY, Tryd.lays174_ren])
      refine (Any.strconv_ParseInt_10_at64_range Tryd.lays174 (sB s) (by omega) (by rw [hd]; exact hp) ev w h1 h2).mono fun e w' ⟨N, he, _, _, hb⟩ => ?_
      exact ⟨_, _, he, rfl, ⟨[.int .i64 (Lib.intSat 64 (sB s).data.toList), .iface 104 (.pointer (some ⟨N, 0, none⟩))], rfl, _, _, rfl, trivial, _, _, rfl, ⟨_, rfl, trivial⟩, rfl⟩, hb⟩
  · cases h
/-- A number's text. -/
def dFormatInt (fu : Nat) (n : Int) : Option Str := if -9223372036854775808 ≤ n ∧ n ≤ 9223372036854775807 then some (Lib.itoa n) else none
theorem laid_tab {w : World} {g : G} (h : LaidAt w g) : Lib.TabIs Tryd.prog w "internal/strconv.uint64pow10" .u64 Lib.pow10Tab := by
  obtain ⟨_, o, h2, t, fr, rfl⟩ := h (LAY.getD 2 (0, errO)) (by simp [LAY])
  unfold Lib.TabIs World.var?
  rw [show Tryd.prog.globalNamed "internal/strconv.uint64pow10" = some 3 by kernel_rfl]
  simp only [Option.bind_some]
  have h2' : w.heap[3]? = _ := h2
  rw [h2']; rfl
theorem dFormatInt_l {fu : Nat} {n : Int} {r : Str} (h : dFormatInt fu n = some r) : PCall Tryd.prog 55 [.int .i64 n, .int .i64 10] (· = .str (sB r)) := by
  unfold dFormatInt at h
  split at h
  · rename_i hs
    have h := Option.some.inj h
    subst h
    refine pcall_of (by kernel_rfl) fun w top vals hl hr => ?_
    obtain ⟨v0, _, rfl, rfl, v1, _, rfl, rfl, rfl⟩ := hr
    refine (Any.strconv_FormatInt_10 Tryd.lays173 n hs.1 hs.2 w (laid_tab hl)).mono fun e w' ⟨he, k, os, hw⟩ => ?_
    subst hw
    exact ⟨_, _, he, rfl, rfl, Lib.below_grow _ _ (Nat.le_refl _) _ _⟩
  · cases h
/-- Texts, joined. -/
def dJoin (fu : Nat) (l : List Str) (sep : Str) : Option Str := if l.length ≤ 1099511627776 ∧ (Lib.join l sep).length ≤ 140737488355328 then some (Lib.join l sep) else none
theorem dJoin_l {fu : Nat} {l : List Str} {sep r : Str} (h : dJoin fu l sep = some r) : PCall Tryd.prog 41 [.sl (l.map cS), .str (sB sep)] (· = .str (sB r)) := by
  unfold dJoin at h
  split at h
  · rename_i hs
    have h := Option.some.inj h
    subst h
    refine pcall_of (by kernel_rfl) fun w top vals hl hr => ?_
    obtain ⟨v0, _, rfl, ⟨a, cap, rfl, hcap, hnil, had⟩, v1, _, rfl, rfl, rfl⟩ := hr
    rw [List.length_map] at hcap ⊢
    cases l with
    | nil =>
      refine (Any.strings_Join_none Tryd.lays156 Tryd.extra156 a cap (sB sep) w).mono fun e w' ⟨he, hw⟩ => ?_
      subst hw
      exact ⟨_, _, he, rfl, rfl, Below.refl _ _⟩
    | cons x t =>
      cases a with
      | none => exact absurd (hnil rfl) (by simp)
      | some ad =>
        obtain ⟨h1, h2⟩ := had ad rfl
        obtain ⟨bk, o, sp⟩ := ad
        obtain rfl : sp = none := h1 (by simp)
        have hcells : ∀ (j : Nat) y, ((x :: t).map sB)[j]? = some y → w.cell? ⟨bk, o + j, none⟩ = some (.string y) := by
          intro j y hy
          rw [List.getElem?_map] at hy
          obtain ⟨z, hz, rfl⟩ := Option.map_eq_some_iff.1 hy
          have h3 := RepRows.get (n := 1) (wM (c := cS) (fun _ => rfl) (x :: t)) h2 (i := j) (x := cS z) (by rw [List.getElem?_map, hz]; rfl)
          obtain ⟨⟨_, v, hv, rfl⟩, _⟩ := h3
          rw [Nat.mul_one] at hv; exact hv
        have hbk : bk < w.heap.size := by
          have := hcells 0 (sB x) rfl
          simp only [World.cell?] at this
          by_cases hlt : bk < w.heap.size
          · exact hlt
          · rw [Array.getElem?_eq_none (by omega)] at this; cases this
        have hj : Lib.join (((x :: t).map sB).map (·.data.toList)) (sB sep).data.toList = Lib.join (x :: t) sep := by
          rw [List.map_map]
          have : ((fun b : ByteArray => b.data.toList) ∘ sB) = id := by funext z; simp [sB]
          rw [this, List.map_id]; simp [sB]
        have := Any.strings_Join Tryd.lays156 Tryd.extra156 bk o cap ((x :: t).map sB) (sB sep) w hcells hbk (by rw [List.length_map]; omega) (by rw [List.length_map]; exact hcap) (by rw [hj]; exact hs.2)
        rw [hj, List.length_map] at this
        refine this.mono fun e w' ⟨he, hb⟩ => ?_
        exact ⟨_, _, he, rfl, rfl, hb⟩
  · cases h
end Go.Proofs.YtaekecbadkcggaaDoor
