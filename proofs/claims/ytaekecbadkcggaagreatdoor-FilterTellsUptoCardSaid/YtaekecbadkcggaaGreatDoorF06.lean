/- What Go's library answers, by the shelf's contracts: strconv.ParseInt, strconv.FormatInt, strings.Join. The layings were printed by a tool of the kit. -/
import Derived.Test.YtaekecbadkcggaaGreatDoorPwE
import Derived.Test.YtaekecbadkcggaaGreatDoorPvT
import Derived.Shelf.Strconv.ParseIntPublic10
import Derived.Shelf.Strconv.Itoa4
import Derived.Shelf.Strings.OnBuilder
import Derived.Lib.AppendIntMem
import Derived.Lib.AtoiErrMem
import Derived.Lib.ItoaLen
namespace Go.Proofs.YtaekecbadkcggaaGreatDoor
open Go.Pv
open Go.RowKit (Below)
set_option linter.unusedSimpArgs false
set_option linter.unusedVariables false
set_option linter.unusedSectionVars false
set_option maxRecDepth 100000
set_option maxHeartbeats 4000000

def Tryz.lays173_ren : Go.Shelf.Ren := ⟨fun | 173 => 44 | 246 => 71 | 283 => 88 | 284 => 89 | 285 => 90 | 286 => 91 | 129 => 104 | 317 => 103 | 318 => 105 | 319 => 106 | 320 => 107 | 337 => 116 | 338 => 117 | n => n, fun | 2 => 2 | 3 => 3 | 9 => 9 | 4 => 4 | 171 => 108 | 0 => 0 | 53 => 102 | 37 => 88 | 5 => 5 | 173 => 111 | 212 => 124 | 51 => 125 | 20 => 20 | 213 => 126 | 46 => 128 | 232 => 147 | 233 => 148 | n => n, fun | 17 => 0 | 18 => 4 | 19 => 5 | n => n⟩
theorem Tryz.lays173 : Go.Proofs.LaysM.n173 Tryz.prog Tryz.lays173_ren where
  mixed := by kernel_rfl
  f129 := Tryz.func104.trans (congrArg some (by kernel_rfl))
  f173 := Tryz.func44.trans (congrArg some (by kernel_rfl))
  f246 := Tryz.func71.trans (congrArg some (by kernel_rfl))
  f283 := Tryz.func88.trans (congrArg some (by kernel_rfl))
  f284 := Tryz.func89.trans (congrArg some (by kernel_rfl))
  f285 := Tryz.func90.trans (congrArg some (by kernel_rfl))
  f286 := Tryz.func91.trans (congrArg some (by kernel_rfl))
  f317 := Tryz.func103.trans (congrArg some (by kernel_rfl))
  f318 := Tryz.func105.trans (congrArg some (by kernel_rfl))
  f319 := Tryz.func106.trans (congrArg some (by kernel_rfl))
  f320 := Tryz.func107.trans (congrArg some (by kernel_rfl))
  f337 := Tryz.func116.trans (congrArg some (by kernel_rfl))
  f338 := Tryz.func117.trans (congrArg some (by kernel_rfl))
  t0 := Tryz.underlying0
  a0 := Tryz.isAgg0
  z0 := Tryz.sizeOf0
  v0 := Tryz.zeroValue0
  t2 := Tryz.underlying2
  a2 := Tryz.isAgg2
  z2 := Tryz.sizeOf2
  v2 := Tryz.zeroValue2
  t3 := Tryz.underlying3
  a3 := Tryz.isAgg3
  z3 := Tryz.sizeOf3
  v3 := Tryz.zeroValue3
  t4 := Tryz.underlying4
  a4 := Tryz.isAgg4
  z4 := Tryz.sizeOf4
  v4 := Tryz.zeroValue4
  t5 := Tryz.underlying5
  a5 := Tryz.isAgg5
  z5 := Tryz.sizeOf5
  v5 := Tryz.zeroValue5
  t9 := Tryz.underlying9
  a9 := Tryz.isAgg9
  z9 := Tryz.sizeOf9
  v9 := Tryz.zeroValue9
  t20 := Tryz.underlying20
  a20 := Tryz.isAgg20
  z20 := Tryz.sizeOf20
  v20 := Tryz.zeroValue20
  t37 := Tryz.underlying88
  a37 := Tryz.isAgg88
  z37 := Tryz.sizeOf88
  v37 := Tryz.zeroValue88
  t46 := Tryz.underlying128
  a46 := Tryz.isAgg128
  z46 := Tryz.sizeOf128
  v46 := Tryz.zeroValue128
  t51 := Tryz.underlying125
  a51 := Tryz.isAgg125
  z51 := Tryz.sizeOf125
  v51 := Tryz.zeroValue125
  t53 := Tryz.underlying102
  a53 := Tryz.isAgg102
  z53 := Tryz.sizeOf102
  v53 := Tryz.zeroValue102
  t171 := Tryz.underlying108
  a171 := Tryz.isAgg108
  z171 := Tryz.sizeOf108
  v171 := Tryz.zeroValue108
  t173 := Tryz.underlying111
  a173 := Tryz.isAgg111
  z173 := Tryz.sizeOf111
  v173 := Tryz.zeroValue111
  t212 := Tryz.underlying124
  a212 := Tryz.isAgg124
  z212 := Tryz.sizeOf124
  v212 := Tryz.zeroValue124
  t213 := Tryz.underlying126
  a213 := Tryz.isAgg126
  z213 := Tryz.sizeOf126
  t232 := Tryz.underlying147
  a232 := Tryz.isAgg147
  z232 := Tryz.sizeOf147
  v232 := Tryz.zeroValue147
  t233 := Tryz.underlying148
  a233 := Tryz.isAgg148
  z233 := Tryz.sizeOf148
  v233 := Tryz.zeroValue148
  g17 := by kernel_rfl
  g18 := by kernel_rfl
  g19 := by kernel_rfl
  i0 := by kernel_rfl
  i2 := by kernel_rfl
  i3 := by kernel_rfl
  i4 := by kernel_rfl
  i5 := by kernel_rfl
  i9 := by kernel_rfl
  i20 := by kernel_rfl
  i37 := by kernel_rfl
  i46 := by kernel_rfl
  i51 := by kernel_rfl
  i53 := by kernel_rfl
  i171 := by kernel_rfl
  i173 := by kernel_rfl
  i212 := by kernel_rfl
  i232 := by kernel_rfl
  i233 := by kernel_rfl
  m17 := by kernel_rfl
  m18 := by kernel_rfl
  m19 := by kernel_rfl
def Tryz.lays174_ren : Go.Shelf.Ren := ⟨fun | 174 => 74 | 247 => 93 | 245 => 94 | 287 => 108 | 279 => 109 | 280 => 110 | 281 => 111 | 282 => 112 | 321 => 118 | 322 => 119 | 316 => 120 | 171 => 122 | 205 => 121 | 243 => 125 | 246 => 71 | 283 => 88 | 284 => 89 | 285 => 90 | 286 => 91 | 129 => 104 | 317 => 103 | 318 => 105 | 319 => 106 | 320 => 107 | 337 => 116 | 338 => 117 | n => n, fun | 9 => 9 | 3 => 3 | 2 => 2 | 75 => 28 | 85 => 98 | 4 => 4 | 167 => 130 | 5 => 5 | 53 => 102 | 175 => 131 | 46 => 128 | 168 => 133 | 37 => 88 | 0 => 0 | 210 => 143 | 21 => 21 | 127 => 104 | 145 => 151 | 143 => 149 | 171 => 108 | 173 => 111 | 212 => 124 | 51 => 125 | 20 => 20 | 213 => 126 | 232 => 147 | 233 => 148 | 80 => 94 | n => n, fun | 15 => 2 | 16 => 3 | 17 => 0 | 18 => 4 | 19 => 5 | n => n⟩
theorem Tryz.lays174 : Go.Proofs.LaysC.n174 Tryz.prog Tryz.lays174_ren where
  mixed := by kernel_rfl
  f129 := Tryz.func104.trans (congrArg some (by kernel_rfl))
  f171 := Tryz.func122.trans (congrArg some (by kernel_rfl))
  f174 := Tryz.func74.trans (congrArg some (by kernel_rfl))
  f205 := Tryz.func121.trans (congrArg some (by kernel_rfl))
  f243 := Tryz.func125.trans (congrArg some (by kernel_rfl))
  f245 := Tryz.func94.trans (congrArg some (by kernel_rfl))
  f246 := Tryz.func71.trans (congrArg some (by kernel_rfl))
  f247 := Tryz.func93.trans (congrArg some (by kernel_rfl))
  f279 := Tryz.func109.trans (congrArg some (by kernel_rfl))
  f280 := Tryz.func110.trans (congrArg some (by kernel_rfl))
  f281 := Tryz.func111.trans (congrArg some (by kernel_rfl))
  f282 := Tryz.func112.trans (congrArg some (by kernel_rfl))
  f283 := Tryz.func88.trans (congrArg some (by kernel_rfl))
  f284 := Tryz.func89.trans (congrArg some (by kernel_rfl))
  f285 := Tryz.func90.trans (congrArg some (by kernel_rfl))
  f286 := Tryz.func91.trans (congrArg some (by kernel_rfl))
  f287 := Tryz.func108.trans (congrArg some (by kernel_rfl))
  f316 := Tryz.func120.trans (congrArg some (by kernel_rfl))
  f317 := Tryz.func103.trans (congrArg some (by kernel_rfl))
  f318 := Tryz.func105.trans (congrArg some (by kernel_rfl))
  f319 := Tryz.func106.trans (congrArg some (by kernel_rfl))
  f320 := Tryz.func107.trans (congrArg some (by kernel_rfl))
  f321 := Tryz.func118.trans (congrArg some (by kernel_rfl))
  f322 := Tryz.func119.trans (congrArg some (by kernel_rfl))
  f337 := Tryz.func116.trans (congrArg some (by kernel_rfl))
  f338 := Tryz.func117.trans (congrArg some (by kernel_rfl))
  t0 := Tryz.underlying0
  a0 := Tryz.isAgg0
  z0 := Tryz.sizeOf0
  v0 := Tryz.zeroValue0
  t2 := Tryz.underlying2
  a2 := Tryz.isAgg2
  z2 := Tryz.sizeOf2
  v2 := Tryz.zeroValue2
  t3 := Tryz.underlying3
  a3 := Tryz.isAgg3
  z3 := Tryz.sizeOf3
  v3 := Tryz.zeroValue3
  t4 := Tryz.underlying4
  a4 := Tryz.isAgg4
  z4 := Tryz.sizeOf4
  v4 := Tryz.zeroValue4
  t5 := Tryz.underlying5
  a5 := Tryz.isAgg5
  z5 := Tryz.sizeOf5
  v5 := Tryz.zeroValue5
  t9 := Tryz.underlying9
  a9 := Tryz.isAgg9
  z9 := Tryz.sizeOf9
  v9 := Tryz.zeroValue9
  t20 := Tryz.underlying20
  a20 := Tryz.isAgg20
  z20 := Tryz.sizeOf20
  v20 := Tryz.zeroValue20
  t21 := Tryz.underlying21
  a21 := Tryz.isAgg21
  z21 := Tryz.sizeOf21
  v21 := Tryz.zeroValue21
  t37 := Tryz.underlying88
  a37 := Tryz.isAgg88
  z37 := Tryz.sizeOf88
  v37 := Tryz.zeroValue88
  t46 := Tryz.underlying128
  a46 := Tryz.isAgg128
  z46 := Tryz.sizeOf128
  v46 := Tryz.zeroValue128
  t51 := Tryz.underlying125
  a51 := Tryz.isAgg125
  z51 := Tryz.sizeOf125
  v51 := Tryz.zeroValue125
  t53 := Tryz.underlying102
  a53 := Tryz.isAgg102
  z53 := Tryz.sizeOf102
  v53 := Tryz.zeroValue102
  t75 := Tryz.underlying28
  a75 := Tryz.isAgg28
  z75 := Tryz.sizeOf28
  v75 := Tryz.zeroValue28
  t85 := Tryz.underlying98
  a85 := Tryz.isAgg98
  z85 := Tryz.sizeOf98
  v85 := Tryz.zeroValue98
  t127 := Tryz.underlying104
  a127 := Tryz.isAgg104
  z127 := Tryz.sizeOf104
  v127 := Tryz.zeroValue104
  t143 := Tryz.underlying149
  a143 := Tryz.isAgg149
  z143 := Tryz.sizeOf149
  v143 := Tryz.zeroValue149
  t145 := Tryz.underlying151
  a145 := Tryz.isAgg151
  z145 := Tryz.sizeOf151
  v145 := Tryz.zeroValue151
  t167 := Tryz.underlying130
  a167 := Tryz.isAgg130
  z167 := Tryz.sizeOf130
  v167 := Tryz.zeroValue130
  t168 := Tryz.underlying133
  a168 := Tryz.isAgg133
  z168 := Tryz.sizeOf133
  v168 := Tryz.zeroValue133
  t171 := Tryz.underlying108
  a171 := Tryz.isAgg108
  z171 := Tryz.sizeOf108
  v171 := Tryz.zeroValue108
  t173 := Tryz.underlying111
  a173 := Tryz.isAgg111
  z173 := Tryz.sizeOf111
  v173 := Tryz.zeroValue111
  t175 := Tryz.underlying131
  a175 := Tryz.isAgg131
  z175 := Tryz.sizeOf131
  v175 := Tryz.zeroValue131
  t210 := Tryz.underlying143
  a210 := Tryz.isAgg143
  z210 := Tryz.sizeOf143
  v210 := Tryz.zeroValue143
  t212 := Tryz.underlying124
  a212 := Tryz.isAgg124
  z212 := Tryz.sizeOf124
  v212 := Tryz.zeroValue124
  t213 := Tryz.underlying126
  a213 := Tryz.isAgg126
  z213 := Tryz.sizeOf126
  t232 := Tryz.underlying147
  a232 := Tryz.isAgg147
  z232 := Tryz.sizeOf147
  v232 := Tryz.zeroValue147
  t233 := Tryz.underlying148
  a233 := Tryz.isAgg148
  z233 := Tryz.sizeOf148
  v233 := Tryz.zeroValue148
  g15 := by kernel_rfl
  g16 := by kernel_rfl
  g17 := by kernel_rfl
  g18 := by kernel_rfl
  g19 := by kernel_rfl
  t80 := Tryz.underlying94
  a80 := Tryz.isAgg94
  z80 := Tryz.sizeOf94
  v80 := Tryz.zeroValue94
  i0 := by kernel_rfl
  i2 := by kernel_rfl
  i3 := by kernel_rfl
  i4 := by kernel_rfl
  i5 := by kernel_rfl
  i9 := by kernel_rfl
  i20 := by kernel_rfl
  i21 := by kernel_rfl
  i37 := by kernel_rfl
  i46 := by kernel_rfl
  i51 := by kernel_rfl
  i53 := by kernel_rfl
  i75 := by kernel_rfl
  i80 := by kernel_rfl
  i85 := by kernel_rfl
  i127 := by kernel_rfl
  i143 := by kernel_rfl
  i145 := by kernel_rfl
  i167 := by kernel_rfl
  i168 := by kernel_rfl
  i171 := by kernel_rfl
  i173 := by kernel_rfl
  i175 := by kernel_rfl
  i210 := by kernel_rfl
  i212 := by kernel_rfl
  i232 := by kernel_rfl
  i233 := by kernel_rfl
  m15 := by kernel_rfl
  m16 := by kernel_rfl
  m17 := by kernel_rfl
  m18 := by kernel_rfl
  m19 := by kernel_rfl
  c0 := by kernel_rfl
  c2 := by kernel_rfl
  c3 := by kernel_rfl
  c4 := by kernel_rfl
  c5 := by kernel_rfl
  c9 := by kernel_rfl
  c20 := by kernel_rfl
  c21 := by kernel_rfl
  c37 := by kernel_rfl
  c46 := by kernel_rfl
  c51 := by kernel_rfl
  c53 := by kernel_rfl
  c75 := by kernel_rfl
  c80 := by kernel_rfl
  c85 := by kernel_rfl
  c127 := by kernel_rfl
  c143 := by kernel_rfl
  c145 := by kernel_rfl
  c167 := by kernel_rfl
  c168 := by kernel_rfl
  c171 := by kernel_rfl
  c173 := by kernel_rfl
  c175 := by kernel_rfl
  c210 := by kernel_rfl
  c212 := by kernel_rfl
  c213 := by kernel_rfl
  c232 := by kernel_rfl
  c233 := by kernel_rfl
def Tryz.lays156_ren : Go.Shelf.Ren := ⟨fun | 156 => 39 | 165 => 65 | 166 => 66 | 169 => 67 | 240 => 81 | 241 => 82 | 276 => 99 | 277 => 100 | n => n, fun | 31 => 72 | 9 => 9 | 3 => 3 | 4 => 4 | 0 => 0 | 20 => 20 | 72 => 90 | 76 => 92 | 70 => 87 | 37 => 88 | 75 => 28 | 127 => 104 | 164 => 118 | 5 => 5 | 80 => 94 | n => n, fun | n => n⟩
theorem Tryz.lays156 : Go.Proofs.Lays.n156 Tryz.prog Tryz.lays156_ren where
  mixed := by kernel_rfl
  f156 := Tryz.func39.trans (congrArg some (by kernel_rfl))
  f165 := Tryz.func65.trans (congrArg some (by kernel_rfl))
  f166 := Tryz.func66.trans (congrArg some (by kernel_rfl))
  f169 := Tryz.func67.trans (congrArg some (by kernel_rfl))
  f240 := Tryz.func81.trans (congrArg some (by kernel_rfl))
  f241 := Tryz.func82.trans (congrArg some (by kernel_rfl))
  f276 := Tryz.func99.trans (congrArg some (by kernel_rfl))
  f277 := Tryz.func100.trans (congrArg some (by kernel_rfl))
  t0 := Tryz.underlying0
  a0 := Tryz.isAgg0
  z0 := Tryz.sizeOf0
  v0 := Tryz.zeroValue0
  t3 := Tryz.underlying3
  a3 := Tryz.isAgg3
  z3 := Tryz.sizeOf3
  v3 := Tryz.zeroValue3
  t4 := Tryz.underlying4
  a4 := Tryz.isAgg4
  z4 := Tryz.sizeOf4
  v4 := Tryz.zeroValue4
  t9 := Tryz.underlying9
  a9 := Tryz.isAgg9
  z9 := Tryz.sizeOf9
  v9 := Tryz.zeroValue9
  t20 := Tryz.underlying20
  a20 := Tryz.isAgg20
  z20 := Tryz.sizeOf20
  v20 := Tryz.zeroValue20
  t31 := Tryz.underlying72
  a31 := Tryz.isAgg72
  z31 := Tryz.sizeOf72
  v31 := Tryz.zeroValue72
  t37 := Tryz.underlying88
  a37 := Tryz.isAgg88
  z37 := Tryz.sizeOf88
  v37 := Tryz.zeroValue88
  t70 := Tryz.underlying87
  a70 := Tryz.isAgg87
  z70 := Tryz.sizeOf87
  v70 := Tryz.zeroValue87
  t72 := Tryz.underlying90
  a72 := Tryz.isAgg90
  z72 := Tryz.sizeOf90
  v72 := Tryz.zeroValue90
  t75 := Tryz.underlying28
  a75 := Tryz.isAgg28
  z75 := Tryz.sizeOf28
  v75 := Tryz.zeroValue28
  t76 := Tryz.underlying92
  a76 := Tryz.isAgg92
  z76 := Tryz.sizeOf92
  v76 := Tryz.zeroValue92
  t127 := Tryz.underlying104
  a127 := Tryz.isAgg104
  z127 := Tryz.sizeOf104
  v127 := Tryz.zeroValue104
  t164 := Tryz.underlying118
  a164 := Tryz.isAgg118
  z164 := Tryz.sizeOf118
  v164 := Tryz.zeroValue118
def Tryz.extra156_ren : Go.Shelf.Ren := ⟨fun | 156 => 39 | 165 => 65 | 166 => 66 | 169 => 67 | 240 => 81 | 241 => 82 | 276 => 99 | 277 => 100 | n => n, fun | 31 => 72 | 9 => 9 | 3 => 3 | 4 => 4 | 0 => 0 | 20 => 20 | 72 => 90 | 76 => 92 | 70 => 87 | 37 => 88 | 75 => 28 | 127 => 104 | 164 => 118 | 5 => 5 | 80 => 94 | n => n, fun | n => n⟩
theorem Tryz.extra156 : Go.Proofs.Builder.Extra Tryz.prog Tryz.extra156_ren where
  sizeBuilder := by kernel_rfl
  liesBuilder := by kernel_rfl
  t5 := Tryz.underlying5
  a5 := Tryz.isAgg5
  z5 := Tryz.sizeOf5
  v5 := Tryz.zeroValue5
  infoByte := by kernel_rfl
  cellsByte := by kernel_rfl
  sizeByte := by kernel_rfl
  neB5 := by decide

theorem pcall_of {P : Program} {f : FuncId} {args : List AV} {K : AV → Prop} (hg : goes P f = true)
    (h : ∀ w top vals, LaidAt w (G.ofTop top) → RepL w (G.ofTop top) args vals → Calls P f vals.toArray w fun e w' => ∃ v r, e = .returned v ∧ K r ∧ Rep w' (G.ofTop top) r v ∧ Below w.heap.size w w') : PCall P f args K :=
  ⟨hg, fun w top vals ht hl hr => (h w top vals hl hr).mono fun e w' ⟨v, r, h1, h2, h3, h4⟩ => ⟨v, r, top, h1, h2, h3, h4, fun _ _ => rfl, fun b hb => ht b (Nat.le_trans h4.size hb)⟩⟩
theorem laid_err {w : World} {g : G} (h : LaidAt w g) {b : Nat} (hb : (b, errO) ∈ LAY) : ∃ ev, w.cell? ⟨b, 0, none⟩ = some ev ∧ (ev = .nilIface ∨ ∃ te pe, ev = .iface te pe) := by
  obtain ⟨_, o, h2, cs, t, fr, v, rfl, h3, h4⟩ := h _ hb
  exact ⟨v, by simp [World.cell?, h2, h3], h4⟩
/-- A number that is written: what strconv.ParseInt says of a text. -/
def pInt (s : Str) : Option Int := match Lib.parseIntB 64 s with
  | .ok v => some v
  | _ => none
def dParseInt (fu : Nat) (s : Str) : Option (Option Int) := if s.length ≤ 281474976710656 then some (pInt s) else none
def pIv : Option Int → AV
  | some v => .tup [.int .i64 v, .nilI]
  | none => .tup [.any, .iface 133 .any]
theorem dParseInt_l {fu : Nat} {s : Str} {r : Option Int} (h : dParseInt fu s = some r) : PCall Tryz.prog 74 [.str (sB s), .int .i64 10, .int .i64 64] (· = pIv r) := by
  unfold dParseInt at h
  split at h
  · rename_i hs
    have h := Option.some.inj h
    subst h
    refine pcall_of (by kernel_rfl) fun w top vals hl hr => ?_
    obtain ⟨v0, _, rfl, rfl, v1, _, rfl, rfl, v2, _, rfl, rfl, rfl⟩ := hr
    have hsz : (sB s).size = s.length := by simp [sB, ByteArray.size]
    have hd : (sB s).data.toList = s := by simp [sB]
    unfold pInt
    rcases hp : Lib.parseIntB 64 s with v | _ | _
    · refine (Any.strconv_ParseInt_10_at64_ok Tryz.lays174 (sB s) (by omega) v (by rw [hd]; exact hp) w).mono fun e w' ⟨he, hw⟩ => ?_
      refine ⟨_, _, he, rfl, ⟨[.int .i64 v, .nilIface], rfl, _, _, rfl, rfl, _, _, rfl, rfl, rfl⟩, ?_⟩
      rcases hw with rfl | ⟨t, rfl⟩
      · exact Below.refl _ _
      · exact Lib.bytesWorld_below w _ t
    · obtain ⟨ev, h1, h2⟩ := laid_err hl (b := Tryz.lays174_ren.g 15) (by simp [LAY, Tryz.lays174_ren])
      refine (Any.strconv_ParseInt_10_at64_syntax Tryz.lays174 (sB s) (by omega) (by rw [hd]; exact hp) ev w h1 h2).mono fun e w' ⟨N, he, _, _, hb⟩ => ?_
      exact ⟨_, _, he, rfl, ⟨[.int .i64 0, .iface 133 (.pointer (some ⟨N, 0, none⟩))], rfl, _, _, rfl, trivial, _, _, rfl, ⟨_, rfl, trivial⟩, rfl⟩, hb⟩
    · obtain ⟨ev, h1, h2⟩ := laid_err hl (b := Tryz.lays174_ren.g 16) (by simp [LAY, Tryz.lays174_ren])
      refine (Any.strconv_ParseInt_10_at64_range Tryz.lays174 (sB s) (by omega) (by rw [hd]; exact hp) ev w h1 h2).mono fun e w' ⟨N, he, _, _, hb⟩ => ?_
      exact ⟨_, _, he, rfl, ⟨[.int .i64 (Lib.intSat 64 (sB s).data.toList), .iface 133 (.pointer (some ⟨N, 0, none⟩))], rfl, _, _, rfl, trivial, _, _, rfl, ⟨_, rfl, trivial⟩, rfl⟩, hb⟩
  · cases h
/-- A number's text. -/
def dFormatInt (fu : Nat) (n : Int) : Option Str := if -9223372036854775808 ≤ n ∧ n ≤ 9223372036854775807 then some (Lib.itoa n) else none
theorem laid_tab {w : World} {g : G} (h : LaidAt w g) : Lib.TabIs Tryz.prog w "internal/strconv.uint64pow10" .u64 Lib.pow10Tab := by
  obtain ⟨_, o, h2, t, fr, rfl⟩ := h (LAY.getD 2 (0, errO)) (by simp [LAY])
  unfold Lib.TabIs World.var?
  rw [show Tryz.prog.globalNamed "internal/strconv.uint64pow10" = some 0 by kernel_rfl]
  simp only [Option.bind_some]
  have h2' : w.heap[0]? = _ := h2
  rw [h2']; rfl
theorem dFormatInt_l {fu : Nat} {n : Int} {r : Str} (h : dFormatInt fu n = some r) : PCall Tryz.prog 44 [.int .i64 n, .int .i64 10] (· = .str (sB r)) := by
  unfold dFormatInt at h
  split at h
  · rename_i hs
    have h := Option.some.inj h
    subst h
    refine pcall_of (by kernel_rfl) fun w top vals hl hr => ?_
    obtain ⟨v0, _, rfl, rfl, v1, _, rfl, rfl, rfl⟩ := hr
    refine (Any.strconv_FormatInt_10 Tryz.lays173 n hs.1 hs.2 w (laid_tab hl)).mono fun e w' ⟨he, k, os, hw⟩ => ?_
    subst hw
    exact ⟨_, _, he, rfl, rfl, Lib.below_grow _ _ (Nat.le_refl _) _ _⟩
  · cases h
/-- Texts, joined. -/
def dJoin (fu : Nat) (l : List Str) (sep : Str) : Option Str := if l.length ≤ 1099511627776 ∧ (Lib.join l sep).length ≤ 140737488355328 then some (Lib.join l sep) else none
theorem dJoin_l {fu : Nat} {l : List Str} {sep r : Str} (h : dJoin fu l sep = some r) : PCall Tryz.prog 39 [.sl (l.map cS), .str (sB sep)] (· = .str (sB r)) := by
  unfold dJoin at h
  split at h
  · rename_i hs
    have h := Option.some.inj h
    subst h
    refine pcall_of (by kernel_rfl) fun w top vals hl hr => ?_
    obtain ⟨v0, _, rfl, ⟨a, cap, rfl, hcap, hnil, had⟩, v1, _, rfl, rfl, rfl⟩ := hr
    rw [List.length_map] at hcap ⊢
    cases l with
    | nil =>
      refine (Any.strings_Join_none Tryz.lays156 Tryz.extra156 a cap (sB sep) w).mono fun e w' ⟨he, hw⟩ => ?_
      subst hw
      exact ⟨_, _, he, rfl, rfl, Below.refl _ _⟩
    | cons x t =>
      cases a with
      | none => exact absurd (hnil rfl) (by simp)
      | some ad =>
        obtain ⟨h1, h2⟩ := had ad rfl
        obtain ⟨bk, o, sp⟩ := ad
        obtain rfl : sp = none := h1 (by simp)
        have hcells : ∀ (j : Nat) y, ((x :: t).map sB)[j]? = some y → w.cell? ⟨bk, o + j, none⟩ = some (.string y) := by
          intro j y hy
          rw [List.getElem?_map] at hy
          obtain ⟨z, hz, rfl⟩ := Option.map_eq_some_iff.1 hy
          have h3 := RepRows.get (n := 1) (wM (c := cS) (fun _ => rfl) (x :: t)) h2 (i := j) (x := cS z) (by rw [List.getElem?_map, hz]; rfl)
          obtain ⟨⟨_, v, hv, rfl⟩, _⟩ := h3
          rw [Nat.mul_one] at hv; exact hv
        have hbk : bk < w.heap.size := by
          have := hcells 0 (sB x) rfl
          simp only [World.cell?] at this
          by_cases hlt : bk < w.heap.size
          · exact hlt
          · rw [Array.getElem?_eq_none (by omega)] at this; cases this
        have hj : Lib.join (((x :: t).map sB).map (·.data.toList)) (sB sep).data.toList = Lib.join (x :: t) sep := by
          rw [List.map_map]
          have : ((fun b : ByteArray => b.data.toList) ∘ sB) = id := by funext z; simp [sB]
          rw [this, List.map_id]; simp [sB]
        have := Any.strings_Join Tryz.lays156 Tryz.extra156 bk o cap ((x :: t).map sB) (sB sep) w hcells hbk (by rw [List.length_map]; omega) (by rw [List.length_map]; exact hcap) (by rw [hj]; exact hs.2)
        rw [hj, List.length_map] at this
        refine this.mono fun e w' ⟨he, hb⟩ => ?_
        exact ⟨_, _, he, rfl, rfl, hb⟩
  · cases h
end Go.Proofs.YtaekecbadkcggaaGreatDoor
