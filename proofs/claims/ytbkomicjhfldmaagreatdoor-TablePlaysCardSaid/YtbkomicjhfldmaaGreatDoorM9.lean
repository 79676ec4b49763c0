/- The texts of a proof, put together by a program of this session's; names are short for the size's sake. -/
import Derived.Shelf.SlIterI.Nil
import Derived.Shelf.SortM.Plain
import Derived.Shelf.SortM.SortNone
import Derived.Ground.GgzProg
import Derived.Ground.SlgmProg
import Derived.Test.YtbkomicjhfldmaaGreatDoorM8
namespace Go.Proofs.YtbkomicjhfldmaaGreatDoor
open Go.Pv Go Go.Maps Go.Sort Go.Shelf Go.WideElems
open Go.RowKit (Below)
set_option linter.unusedSimpArgs false
set_option linter.unusedVariables false
set_option maxRecDepth 100000
set_option maxHeartbeats 4000000
def Tryz.keysA_ren : Go.Shelf.Ren := ⟨fun | 7 => 48 | 10 => 85 | n => n, fun | 23 => 95 | 26 => 3 | 3 => 105 | 28 => 112 | 0 => 0 | 27 => 111 | 33 => 54 | 4 => 4 | n => n, fun | n => n⟩
theorem Tryz.keysA : Go.Proofs.SlLaysZI.n7 Tryz.prog Tryz.keysA_ren where
 mixed := by kernel_rfl
 f7 := ⟨"maps.Keys[map[int]plover/table.sub,int,plover/table.sub]", by decide, Tryz.func48.trans (congrArg some (by kernel_rfl))⟩
 f10 := ⟨"maps.Keys[map[int]plover/table.sub,int,plover/table.sub]$1", by decide, Tryz.func85.trans (congrArg some (by kernel_rfl))⟩
 t0 := Tryz.underlying0
 a0 := Tryz.isAgg0
 z0 := Tryz.sizeOf0
 v0 := Tryz.zeroValue0
 t4 := Tryz.underlying4
 a4 := Tryz.isAgg4
 z4 := Tryz.sizeOf4
 v4 := Tryz.zeroValue4
 t23 := Tryz.underlying95
 a23 := Tryz.isAgg95
 z23 := Tryz.sizeOf95
 v23 := Tryz.zeroValue95
 t26 := Tryz.underlying3
 a26 := Tryz.isAgg3
 z26 := Tryz.sizeOf3
 v26 := Tryz.zeroValue3
 t27 := Tryz.underlying111
 a27 := Tryz.isAgg111
 z27 := Tryz.sizeOf111
 v27 := Tryz.zeroValue111
 t28 := Tryz.underlying112
 a28 := Tryz.isAgg112
 z28 := Tryz.sizeOf112
 v28 := Tryz.zeroValue112
 t33 := Tryz.underlying54
 a33 := Tryz.isAgg54
 z33 := Tryz.sizeOf54
 v33 := Tryz.zeroValue54
def Tryz.sortedA_ren : Go.Shelf.Ren := ⟨fun | 6 => 47 | 8 => 83 | 9 => 84 | 11 => 132 | 13 => 134 | 12 => 133 | 23 => 197 | 24 => 198 | 14 => 188 | 15 => 189 | 16 => 190 | 17 => 191 | 18 => 192 | 19 => 193 | 20 => 194 | 21 => 195 | 22 => 196 | 25 => 229 | 26 => 230 | 27 => 231 | 28 => 232 | 29 => 233 | 30 => 218 | 31 => 256 | n => n, fun | 26 => 3 | 28 => 112 | 24 => 57 | 0 => 0 | 3 => 3 | 37 => 214 | 48 => 49 | 50 => 265 | 4 => 4 | 40 => 257 | 39 => 256 | 45 => 139 | 5 => 5 | 9 => 9 | 51 => 283 | 55 => 287 | 57 => 301 | 58 => 208 | 33 => 54 | n => n, fun | n => n⟩
theorem Tryz.sortedA : Go.Proofs.SlLaysZI.n6 Tryz.prog Tryz.sortedA_ren where
 mixed := by kernel_rfl
 f6 := ⟨"slices.Sorted[int]", by decide, Tryz.func47.trans (congrArg some (by kernel_rfl))⟩
 f8 := ⟨"slices.Collect[int]", by decide, Tryz.func83.trans (congrArg some (by kernel_rfl))⟩
 f11 := ⟨"slices.AppendSeq[[]int,int]", by decide, Tryz.func132.trans (congrArg some (by kernel_rfl))⟩
 t0 := Tryz.underlying0
 a0 := Tryz.isAgg0
 z0 := Tryz.sizeOf0
 v0 := Tryz.zeroValue0
 t24 := Tryz.underlying57
 a24 := Tryz.isAgg57
 z24 := Tryz.sizeOf57
 v24 := Tryz.zeroValue57
 t26 := Tryz.underlying3
 a26 := Tryz.isAgg3
 z26 := Tryz.sizeOf3
 v26 := Tryz.zeroValue3
 t28 := Tryz.underlying112
 a28 := Tryz.isAgg112
 z28 := Tryz.sizeOf112
 v28 := Tryz.zeroValue112
 i26 := by kernel_rfl
def Tryz.sortA_ren : Go.Shelf.Ren := ⟨fun | 5 => 84 | 8 => 134 | 7 => 133 | 19 => 197 | 20 => 198 | 10 => 188 | 11 => 189 | 12 => 190 | 13 => 191 | 14 => 192 | 15 => 193 | 16 => 194 | 17 => 195 | 18 => 196 | 30 => 229 | 31 => 230 | 32 => 231 | 33 => 232 | 34 => 233 | 35 => 218 | 40 => 256 | n => n, fun | 23 => 57 | 25 => 3 | 3 => 3 | 32 => 214 | 22 => 57 | 0 => 0 | 44 => 49 | 46 => 265 | 4 => 4 | 36 => 257 | 35 => 256 | 41 => 139 | 5 => 5 | 9 => 9 | 53 => 283 | 57 => 287 | 63 => 301 | 64 => 208 | n => n, fun | n => n⟩
theorem Tryz.sortA : Go.Proofs.SlLaysM.n5 Tryz.prog Tryz.sortA_ren where
 mixed := by kernel_rfl
 f5 := ⟨"slices.Sort[[]int,int]", by decide, Tryz.func84.trans (congrArg some (by kernel_rfl))⟩
 f7 := ⟨"slices.pdqsortOrdered[int]", by decide, Tryz.func133.trans (congrArg some (by kernel_rfl))⟩
 f8 := Tryz.func134.trans (congrArg some (by kernel_rfl))
 f10 := ⟨"slices.insertionSortOrdered[int]", by decide, Tryz.func188.trans (congrArg some (by kernel_rfl))⟩
 f11 := ⟨"slices.heapSortOrdered[int]", by decide, Tryz.func189.trans (congrArg some (by kernel_rfl))⟩
 f12 := ⟨"slices.breakPatternsOrdered[int]", by decide, Tryz.func190.trans (congrArg some (by kernel_rfl))⟩
 f13 := ⟨"slices.choosePivotOrdered[int]", by decide, Tryz.func191.trans (congrArg some (by kernel_rfl))⟩
 f14 := ⟨"slices.reverseRangeOrdered[int]", by decide, Tryz.func192.trans (congrArg some (by kernel_rfl))⟩
 f15 := ⟨"slices.partialInsertionSortOrdered[int]", by decide, Tryz.func193.trans (congrArg some (by kernel_rfl))⟩
 f16 := ⟨"cmp.Less[int]", by decide, Tryz.func194.trans (congrArg some (by kernel_rfl))⟩
 f17 := ⟨"slices.partitionEqualOrdered[int]", by decide, Tryz.func195.trans (congrArg some (by kernel_rfl))⟩
 f18 := ⟨"slices.partitionOrdered[int]", by decide, Tryz.func196.trans (congrArg some (by kernel_rfl))⟩
 f19 := Tryz.func197.trans (congrArg some (by kernel_rfl))
 f20 := Tryz.func198.trans (congrArg some (by kernel_rfl))
 f30 := ⟨"slices.siftDownOrdered[int]", by decide, Tryz.func229.trans (congrArg some (by kernel_rfl))⟩
 f31 := Tryz.func230.trans (congrArg some (by kernel_rfl))
 f32 := Tryz.func231.trans (congrArg some (by kernel_rfl))
 f33 := ⟨"slices.medianAdjacentOrdered[int]", by decide, Tryz.func232.trans (congrArg some (by kernel_rfl))⟩
 f34 := ⟨"slices.medianOrdered[int]", by decide, Tryz.func233.trans (congrArg some (by kernel_rfl))⟩
 f35 := ⟨"cmp.isNaN[int]", by decide, Tryz.func218.trans (congrArg some (by kernel_rfl))⟩
 f40 := ⟨"slices.order2Ordered[int]", by decide, Tryz.func256.trans (congrArg some (by kernel_rfl))⟩
 t0 := Tryz.underlying0
 a0 := Tryz.isAgg0
 z0 := Tryz.sizeOf0
 v0 := Tryz.zeroValue0
 t3 := Tryz.underlying3
 a3 := Tryz.isAgg3
 z3 := Tryz.sizeOf3
 v3 := Tryz.zeroValue3
 t4 := Tryz.underlying4
 a4 := Tryz.isAgg4
 z4 := Tryz.sizeOf4
 v4 := Tryz.zeroValue4
 t5 := Tryz.underlying5
 a5 := Tryz.isAgg5
 z5 := Tryz.sizeOf5
 v5 := Tryz.zeroValue5
 t9 := Tryz.underlying9
 a9 := Tryz.isAgg9
 z9 := Tryz.sizeOf9
 v9 := Tryz.zeroValue9
 t22 := Tryz.underlying57
 a22 := Tryz.isAgg57
 z22 := Tryz.sizeOf57
 v22 := Tryz.zeroValue57
 t23 := Tryz.underlying57
 a23 := Tryz.isAgg57
 z23 := Tryz.sizeOf57
 v23 := Tryz.zeroValue57
 t25 := Tryz.underlying3
 a25 := Tryz.isAgg3
 z25 := Tryz.sizeOf3
 v25 := Tryz.zeroValue3
 t32 := Tryz.underlying214
 a32 := Tryz.isAgg214
 z32 := Tryz.sizeOf214
 v32 := Tryz.zeroValue214
 t35 := Tryz.underlying256
 a35 := Tryz.isAgg256
 z35 := Tryz.sizeOf256
 v35 := Tryz.zeroValue256
 t36 := Tryz.underlying257
 a36 := Tryz.isAgg257
 z36 := Tryz.sizeOf257
 v36 := Tryz.zeroValue257
 t41 := Tryz.underlying139
 a41 := Tryz.isAgg139
 z41 := Tryz.sizeOf139
 v41 := Tryz.zeroValue139
 t44 := Tryz.underlying49
 a44 := Tryz.isAgg49
 z44 := Tryz.sizeOf49
 v44 := Tryz.zeroValue49
 t46 := Tryz.underlying265
 a46 := Tryz.isAgg265
 z46 := Tryz.sizeOf265
 v46 := Tryz.zeroValue265
 t53 := Tryz.underlying283
 a53 := Tryz.isAgg283
 z53 := Tryz.sizeOf283
 v53 := Tryz.zeroValue283
 t57 := Tryz.underlying287
 a57 := Tryz.isAgg287
 z57 := Tryz.sizeOf287
 v57 := Tryz.zeroValue287
 t63 := Tryz.underlying301
 a63 := Tryz.isAgg301
 z63 := Tryz.sizeOf301
 v63 := Tryz.zeroValue301
 t64 := Tryz.underlying208
 a64 := Tryz.isAgg208
 z64 := Tryz.sizeOf208
 v64 := Tryz.zeroValue208
theorem Tryz.sortsA (m : Nat) : AnyZI.SortsIn Tryz.prog Tryz.sortedA_ren Fence.wide m :=
 ⟨fun blk off cap ss W hH hblk hsz => callsIn_wide.2 (AnyM.slices_Sort_int Tryz.sortA blk off cap ss W hH hblk hsz),
  fun p cap W => callsIn_wide.2 (AnyM.slices_Sort_int_none Tryz.sortA p cap W)⟩
theorem xU {P : Program} {k : TypeId} (hk : P.underlying k = some (.int .i64)) {w : World} {b : Nat} {es : Array MapEntry} {clock : Nat} {zs : List Int} (h : w.heap[b]? = some (.map es clock)) (hs : Go.MapKept.Stamped es clock)
  (hz : es.toList.map (·.key) = zs.map (Value.int .i64)) (hw : ∀ z ∈ zs, (Lit.int .i64 z).wf = true) (hn : zs.length ≤ maxLen) :
  ∃ D0 : DataW Unit, w.ownsMap P k (fun _ => some (.nil, [])) b zs.length D0 ∧ (intKeys D0).Perm zs ∧ Go.Maps.size D0 = zs.length := by
 have hlen : es.size = zs.length := by have := congrArg List.length hz; simpa using this
 have hread : ∀ x ∈ es.toList, ∃ z ∈ zs, x.key = .int .i64 z ∧ WideElems.rd (H := Unit) P k (fun _ => some (.nil, [])) x = some (.int .i64 z, .nil) := fun x hx => by
  have : x.key ∈ zs.map (Value.int .i64) := by rw [← hz]; exact List.mem_map_of_mem hx
  obtain ⟨z, hz', e⟩ := List.mem_map.1 this
  refine ⟨z, hz', e.symm, ?_⟩
  unfold WideElems.rd
  rw [← e, keyOf_int_mk hk (hw z hz')]; rfl
 refine ⟨_, ⟨es, clock, h, ⟨by omega, hs, fun x hx => by obtain ⟨z, _, _, e⟩ := hread x hx; exact ⟨_, e⟩⟩, by omega, rfl⟩, ?_, ?_⟩
 ·
  show (((es.toList.map (rg (H := Unit) P k fun _ => some (.nil, []))).foldr DataW.insert []).map fun p => Go.intOf p.1).Perm zs
  refine ((WideShapes.sorted_perm _).map _).trans ?_
  rw [List.map_map]
  have : es.toList.map ((fun p : Lit × DataW Unit => Go.intOf p.1) ∘ rg P k fun _ => some (.nil, [])) = zs := by
   have h2 : es.toList.map ((fun p : Lit × DataW Unit => Go.intOf p.1) ∘ rg P k fun _ => some (.nil, [])) = (es.toList.map (·.key)).map fun v => match v with | .int _ z => z | _ => 0 := by
    rw [List.map_map]
    refine List.map_congr_left fun x hx => ?_
    obtain ⟨z, _, e1, e2⟩ := hread x hx
    simp only [Function.comp_apply, rg_of e2, e1]; rfl
   rw [h2, hz, List.map_map]
   exact (List.map_congr_left fun _ _ => rfl).trans (List.map_id _)
  rw [this]
 ·
  show ((es.toList.map (rg (H := Unit) P k fun _ => some (.nil, []))).foldr DataW.insert []).length = _
  rw [length_sorted, List.length_map, Array.length_toList, hlen]
theorem zh : tj Tryz.prog 48 47 := by
 refine ⟨by kernel_rfl, by kernel_rfl, fun w b es clock zs hb hs hk hwf hlen => ?_⟩
 have hml : zs.length ≤ maxLen := by
    have : (68719476736 : Nat) ≤ maxLen := by decide
    omega
 obtain ⟨D0, hown, hperm, hsize⟩ := xU (P := Tryz.prog) (k := 3) Tryz.underlying3 hb hs hk hwf hml
 have cK : Calls Tryz.prog 48 #[.map (some b)] w fun e w' => e = .returned (.func (.func 85) #[] #[.pointer (some ⟨w.heap.size, 0, none⟩)]) ∧ w' = w.alloc (.cells #[.map (some b)] 95) :=
  (callsIn_wide (n := 5)).1 (AnyZI.keys_in Tryz.keysA Fence.wide 5 trivial rfl (some b) w)
 refine cK.mono ?_
 rintro e w1 ⟨rfl, rfl⟩
 refine ⟨_, rfl, (Below.refl _ w).alloc (Nat.le_refl _) _, ?_⟩
 have hbl := hown.lt
 have hseq : SeqGives Fence.wide 2 Tryz.prog 85 #[.pointer (some ⟨w.heap.size, 0, none⟩)] encZ (fun ss => ss.Perm (intKeys D0)) (Go.Maps.size D0) (w.alloc (.cells #[.map (some b)] 95)) :=
  AnyZI.keys_gives (ρ := Tryz.keysA_ren) { Tryz.keysA with } Fence.wide _ trivial rfl (by omega) w.heap.size b zs.length D0 _ (by simp) (by simp) (by
   obtain ⟨es, clock, hb, Ft, hs, hD⟩ := hown
   exact ⟨es, clock, (Below.heap_alloc _ _ b hbl).trans hb, Ft, hs, hD⟩)
 have cS := AnyZI.sorted_in Tryz.sortedA Fence.wide 5 trivial trivial trivial trivial rfl (by omega) (Tryz.sortsA _) (enters_of Tryz.func84 (by kernel_rfl) rfl) 85 #[.pointer (some ⟨w.heap.size, 0, none⟩)] trivial
  (enters_of Tryz.func85 (by kernel_rfl) rfl) _ _ (by rw [hsize]; exact hml) (by rw [hsize]; omega) _ hseq
 change CallsIn _ _ Tryz.prog 47 _ _ _ at cS
 refine ((callsIn_wide).1 cS).mono ?_
 rintro e w2 ⟨v, ss, rfl, hS, hrow, _, hb2⟩
 exact ⟨v, ss, _, rfl, hS.trans hperm, hrow, hb2⟩
end Go.Proofs.YtbkomicjhfldmaaGreatDoor
namespace Go.Proofs.YtbkomicjhfldmaaGreatDoor
open Go.Pv
set_option maxRecDepth 100000
set_option maxHeartbeats 4000000
set_option linter.unusedSimpArgs false
set_option linter.unusedVariables false
set_option linter.unusedSectionVars false
def c7 (fu : Nat) (t1 : aC) : Option ((List bf) × aC) :=
 (ksd t1.L).bind fun x1 => (bm (ε := Int × (List bf)) (τ := List bf) (fun (((x2, out1)) : Int × (List bf)) => (bif (decide (x2 < (x1.length : Int))) then ((gi x1 x2).bind fun id1 => (yb t1.L id1 (aw.mk (bf.mk 0 0 (aF.mk (ba.mk 0 0 0 0) []) [] (ba.mk 0 0 0 0)) (aa.mk 0 [] [] [] []))).bind fun out4 => (dy fu out4.Sub).bind fun out5 => (ap out1 [out5]).bind fun out6 => some (Sum.inl (W (x2 + 1), out6))) else some (Sum.inr out1))) fu (0, [])).bind fun (out3 : List bf) => some (out3, t1)
section
attribute [local irreducible] cg aM DP ai aP Decidable.decide
theorem oa {fu : Nat} {t1 : aC} {r : (List bf) × aC} (h : c7 fu t1 = some r) : aP Tryz.prog 11 3 [.ptr 0 0] [(0, 0, .int .i64 t1.Shift), (0, 1, .int .i64 t1.Most), (0, 2, .own 1), (0, 3, .own 2)] [(1, bO (bj .i64) (fun x : aw => .agg (az x)) t1.L), (2, bO (bj .i64) (fun x : Int => .int .i64 x) t1.Last)] (fun r_ H_ O_ n_ => r_ = .sl (r.1.map aU) ∧ H_ = [(0, 0, .int .i64 r.2.Shift), (0, 1, .int .i64 r.2.Most), (0, 2, .own 3), (0, 3, .own 4)] ∧ O_ = [(3, bO (bj .i64) (fun x : aw => .agg (az x)) r.2.L), (4, bO (bj .i64) (fun x : Int => .int .i64 x) r.2.Last)] ∧ n_ = 5) := by
 rw [c7] at h
 refine nO Tryz.func11 ?_
 refine aQ (fun _ _ _ _ _ hi => en (κ := (bj .i64)) (c := (fun x : aw => .agg (az x))) 0 2 1 Z Z hi) (aQ (fun _ _ _ _ _ hi => en (κ := (bj .i64)) (c := (fun x : Int => .int .i64 x)) 0 3 2 Z Z hi) (ag (rv Z Z (rn (ag (rv Z Z (rn (aS (ag (rg 4 rfl (bx h fun x1 hx1 h_1 => J0 Z Z Z Z Z zh hx1 (rv Z Z (rt ((lM (cI .i64) x1)) (rv Z Z (rn (aQ (fun _ _ _ _ _ hi => nH false 12 3 rfl hi) (bx h_1 fun e2 hl3 h_2 => aq (fun x => x = e2) (fun (out3 : List bf) => ⟨[(3, .own 3)], [(0, 0, .int .i64 t1.Shift), (0, 1, .int .i64 t1.Most), (0, 2, .own 4), (0, 3, .own 5)], [(3, .row 12 (out3.map aU)), (4, bO (bj .i64) (fun x : aw => .agg (az x)) t1.L), (5, bO (bj .i64) (fun x : Int => .int .i64 x) t1.Last)], 6⟩) ?_ ?_)))))))))))))))))
 ·clear h h_1
  refine aB (be hl3 (fun (((x2, out1)) : Int × (List bf)) => ⟨[(0, .ptr 0 0), (3, .own 3), (11, .sl (x1.map (cI .i64))), (12, .int .i64 (x1.length : Int)), (13, .int .i64 x2)], [(0, 0, .int .i64 t1.Shift), (0, 1, .int .i64 t1.Most), (0, 2, .own 4), (0, 3, .own 5)], [(3, .row 12 (out1.map aU)), (4, bO (bj .i64) (fun x : aw => .agg (az x)) t1.L), (5, bO (bj .i64) (fun x : Int => .int .i64 x) t1.Last)], 6⟩) [0,1,2,5,3,4] rfl zs ?_)
  intro v o6 ho4 hE5
  obtain ⟨x2, out1⟩ := v
  refine ch (ag (rv Z Z (rn (aS (bw rfl ho4 (fun ho4_1 => ?_) fun ho4_1 => ?_)))))
  ·clear ho4
   refine aK (aS (aB (ag (bx ho4_1 fun id1 hx7 ho4_2 => ri Z Z Z Z Z Z (iF hx7) (kG (cI .i64) hx7) (wM (fun _ => by rfl) _) ?_))))
   refine rg 2 rfl (rn (aR (rg 6 rfl (bx ho4_2 fun out4 hx8 ho4_3 => rV rfl (pj (κ := (bj .i64)) (c := (fun x : aw => .agg (az x))) (b := t1.L) (kk := id1) (z := (aw.mk (bf.mk 0 0 (aF.mk (ba.mk 0 0 0 0) []) [] (ba.mk 0 0 0 0)) (aa.mk 0 [] [] [] []))) Z Z Z Z Z Z (by first | exact .inl (.inl rfl) | exact .inr ⟨_, _, rfl, rfl, by repeat (first | exact trivial | refine ⟨by first | exact .inl rfl | exact .inr (.inl ⟨rfl, rfl⟩) | exact .inr (.inr ⟨rfl, _, rfl⟩), ?_⟩)⟩) Z Z Z hx8) ?_))))
   refine rv Z Z (bx ho4_3 fun out5 hx9 ho4_4 => bt Z Z Z (fp hx9) (mz false Z Z Z Z Z Z Z Z Z Z (bx ho4_4 fun out6 hx10 ho4_5 => pu false (z := 12) (xs := out1.map aU) (ys := [out5].map aU) Z Z Z Z Z Z Z (.own Z Z) (.sl Z Z Z) (wM (fun _ => by rfl) _) (oM (fun _ => by rfl) _) (wA aU rfl hx10) rfl ?_)))
   exact rk (congrArg (Kind.row _) (wR aU hx10)) (rv Z Z (rn (ah (aR (rg 2 rfl (rn (si ho4_5 ▸ lN [0,1,2,7,4,5])))))))
  clear ho4
  refine aW (xX ?_)
  cases ho4_1
  have hq := hE5 _ rfl
  subst hq
  exact cN [0,1,2,3,4,5]
 clear h h_1
 rintro out3 rfl
 refine ag (rg 2 rfl (rn (aT ?_)))
 obtain rfl := si h_2
 refine rW ?_
 exact rA [0,1,2,4,5]
def cm (fu : Nat) (t1 : aC) (id1 : Int) (e1 : eI) : Option (Bool × aC) :=
 (yb t1.L id1 (aw.mk (bf.mk 0 0 (aF.mk (ba.mk 0 0 0 0) []) [] (ba.mk 0 0 0 0)) (aa.mk 0 [] [] [] []))).bind fun is1 => (some ((mg t1.L id1).isSome)).bind fun is2 => bif is2 then ((lX fu is1.Sub.Region e1.At).bind fun x1 => bif x1 then ((dE fu (aa.mk is1.F.Kind is1.F.Name is1.F.Op is1.F.Vals is1.F.L) e1.Attrs).bind fun x2 => some (x2, t1)) else some (false, t1)) else some (false, t1)
theorem fR {fu : Nat} {t1 : aC} {id1 : Int} {e1 : eI} {r : Bool × aC} (h : cm fu t1 id1 e1 = some r) : aP Tryz.prog 25 3 [.ptr 0 0, .int .i64 id1, .agg [.int .i64 e1.Pub, .int .u32 e1.Seq, .int .i64 e1.At.X, .int .i64 e1.At.Y, .sl (e1.Attrs.map au)]] [(0, 0, .int .i64 t1.Shift), (0, 1, .int .i64 t1.Most), (0, 2, .own 1), (0, 3, .own 2)] [(1, bO (bj .i64) (fun x : aw => .agg (az x)) t1.L), (2, bO (bj .i64) (fun x : Int => .int .i64 x) t1.Last)] (fun r_ H_ O_ n_ => r_ = .bool r.1 ∧ H_ = [(0, 0, .int .i64 r.2.Shift), (0, 1, .int .i64 r.2.Most), (0, 2, .own 3), (0, 3, .own 4)] ∧ O_ = [(3, bO (bj .i64) (fun x : aw => .agg (az x)) r.2.L), (4, bO (bj .i64) (fun x : Int => .int .i64 x) r.2.Last)] ∧ n_ = 5) := by
 rw [cm] at h
 refine nO Tryz.func25 ?_
 refine aQ (fun _ _ _ _ _ hi => en (κ := (bj .i64)) (c := (fun x : aw => .agg (az x))) 0 2 1 Z Z hi) (aQ (fun _ _ _ _ _ hi => en (κ := (bj .i64)) (c := (fun x : Int => .int .i64 x)) 0 3 2 Z Z hi) (ag (rb Z Z (rv Z Z (rn (ag (rg 5 rfl (bx h fun is1 hx1 h_1 => rV rfl (jY (κ := (bj .i64)) (c := (fun x : aw => .agg (az x))) (b := t1.L) (kk := id1) (z := (aw.mk (bf.mk 0 0 (aF.mk (ba.mk 0 0 0 0) []) [] (ba.mk 0 0 0 0)) (aa.mk 0 [] [] [] []))) Z Z Z Z Z Z (by first | exact .inl (.inl rfl) | exact .inr ⟨_, _, rfl, rfl, by repeat (first | exact trivial | refine ⟨by first | exact .inl rfl | exact .inr (.inl ⟨rfl, rfl⟩) | exact .inr (.inr ⟨rfl, _, rfl⟩), ?_⟩)⟩) Z Z Z hx1) ?_))))))))
 refine rg 3 rfl (ra Z Z Z (rs Z Z Z Z Z Z Z (rv Z Z ?_)))
 obtain ⟨is2, hx2, h_2⟩ := bs h_1
 refine rt (xh hx2) (rn (ag (rg 2 rfl (dN Z Z Z Z Z h_2 (fun h_3 => ?_) fun h_3 => ?_))))
 ·clear h h_1 h_2
  refine rg 5 rfl (gy Z Z Z (bx h_3 fun x1 hx3 h_4 => bt Z Z Z (wt hx3) (rg 2 rfl (dN Z Z Z Z Z h_4 (fun h_5 => ?_) fun h_5 => ?_))))
  ·clear h_3 h_4
   refine rg 4 rfl (gy Z Z Z (bx h_5 fun x2 hx4 h_6 => bt Z Z Z (ur hx4) (rg 2 rfl (rn (aT ?_)))))
   obtain rfl := si h_6
   refine rW ?_
   exact rA [0,1,2,3,4]
  clear h_3 h_4
  refine rg 6 rfl (rn (aT ?_))
  obtain rfl := si h_5
  refine rW ?_
  exact rA [0,1,2,3,4]
 clear h h_1 h_2
 refine rg 14 rfl (rn (aT ?_))
 obtain rfl := si h_3
 refine rW ?_
 exact rA [0,1,2,3,4]
def cB (fu : Nat) (t1 : aC) (id1 : Int) (d1 : aZ) : Option (bf × Bool × Er × aC) :=
 (yb t1.L id1 (aw.mk (bf.mk 0 0 (aF.mk (ba.mk 0 0 0 0) []) [] (ba.mk 0 0 0 0)) (aa.mk 0 [] [] [] []))).bind fun is1 => (some ((mg t1.L id1).isSome)).bind fun is2 => bif (!is2) then some ((bf.mk 0 0 (aF.mk (ba.mk 0 0 0 0) []) [] (ba.mk 0 0 0 0)), false, (some 9), t1) else ((jQ fu is1.Sub.Region d1).bind fun err1 => bif err1.2.isSome then some ((bf.mk 0 0 (aF.mk (ba.mk 0 0 0 0) []) [] (ba.mk 0 0 0 0)), false, err1.2, t1) else ((me fu is1.Sub.Region is1.Sub.Cover d1).bind fun safe1 => (bif (!safe1) then some (decide (is1.Sub.Version > 2147483645)) else some false : Option Bool).bind fun (x1 : Bool) => (bif x1 then some ((bf.mk 0 0 (aF.mk (ba.mk 0 0 0 0) []) [] (ba.mk 0 0 0 0)), false, (some 8), t1) else ((bif (!safe1) then ((g9 fu t1.Shift err1.1).bind fun err3 => bif err3.2.isSome then some (Sum.inr ((bf.mk 0 0 (aF.mk (ba.mk 0 0 0 0) []) [] (ba.mk 0 0 0 0)), false, err3.2, t1)) else ((Et t1.Last id1 (W (is1.Sub.Version + 1))).bind fun m1 => some (Sum.inl (W (is1.Sub.Version + 1), err3.1.X1, err3.1.Y1, err3.1.X2, err3.1.Y2, m1)))) else some (Sum.inl (is1.Sub.Version, is1.Sub.Cover.X1, is1.Sub.Cover.Y1, is1.Sub.Cover.X2, is1.Sub.Cover.Y2, t1.Last)) : Option ((Int × Int × Int × Int × Int × (List (Int × Int))) ⊕ (bf × Bool × Er × aC))).bind fun o => kS o fun (((s1, s2, s3, s4, s5, l1)) : Int × Int × Int × Int × Int × (List (Int × Int))) => ((Et t1.L id1 (aw.mk (bf.mk is1.Sub.Id s1 err1.1 is1.Sub.Filter (ba.mk s2 s3 s4 s5)) (aa.mk is1.F.Kind is1.F.Name is1.F.Op is1.F.Vals is1.F.L))).bind fun m2 => (dy fu (bf.mk is1.Sub.Id s1 err1.1 is1.Sub.Filter (ba.mk s2 s3 s4 s5))).bind fun x2 => some (x2, safe1, none, (aC.mk t1.Shift t1.Most m2 l1)))))))
theorem gB {fu : Nat} {t1 : aC} {id1 : Int} {d1 : aZ} {r : bf × Bool × Er × aC} (h : cB fu t1 id1 d1 = some r) : aP Tryz.prog 12 3 [.ptr 0 0, .int .i64 id1, .agg [.int .i64 d1.X, .int .i64 d1.Y]] [(0, 0, .int .i64 t1.Shift), (0, 1, .int .i64 t1.Most), (0, 2, .own 1), (0, 3, .own 2)] [(1, bO (bj .i64) (fun x : aw => .agg (az x)) t1.L), (2, bO (bj .i64) (fun x : Int => .int .i64 x) t1.Last)] (fun r_ H_ O_ n_ => r_ = .tup [.agg [.int .i64 r.1.Id, .int .i64 r.1.Version, .int .i64 r.1.Region.Rect.X1, .int .i64 r.1.Region.Rect.Y1, .int .i64 r.1.Region.Rect.X2, .int .i64 r.1.Region.Rect.Y2, .sl (r.1.Region.Poly.map aH), .str (sB r.1.Filter), .int .i64 r.1.Cover.X1, .int .i64 r.1.Cover.Y1, .int .i64 r.1.Cover.X2, .int .i64 r.1.Cover.Y2], .bool r.2.1, .err 55 r.2.2.1] ∧ H_ = [(0, 0, .int .i64 r.2.2.2.Shift), (0, 1, .int .i64 r.2.2.2.Most), (0, 2, .own 3), (0, 3, .own 4)] ∧ O_ = [(3, bO (bj .i64) (fun x : aw => .agg (az x)) r.2.2.2.L), (4, bO (bj .i64) (fun x : Int => .int .i64 x) r.2.2.2.Last)] ∧ n_ = 5) := by
 rw [cB] at h
 refine nO Tryz.func12 ?_
 refine aQ (fun _ _ _ _ _ hi => en (κ := (bj .i64)) (c := (fun x : aw => .agg (az x))) 0 2 1 Z Z hi) (aQ (fun _ _ _ _ _ hi => en (κ := (bj .i64)) (c := (fun x : Int => .int .i64 x)) 0 3 2 Z Z hi) (ag (rb Z Z (ra Z Z Z (rg 2 rfl (rn (ag (rg 5 rfl (bx h fun is1 hx1 h_1 => rV rfl (jY (κ := (bj .i64)) (c := (fun x : aw => .agg (az x))) (b := t1.L) (kk := id1) (z := (aw.mk (bf.mk 0 0 (aF.mk (ba.mk 0 0 0 0) []) [] (ba.mk 0 0 0 0)) (aa.mk 0 [] [] [] []))) Z Z Z Z Z Z (by first | exact .inl (.inl rfl) | exact .inr ⟨_, _, rfl, rfl, by repeat (first | exact trivial | refine ⟨by first | exact .inl rfl | exact .inr (.inl ⟨rfl, rfl⟩) | exact .inr (.inr ⟨rfl, _, rfl⟩), ?_⟩)⟩) Z Z Z hx1) ?_)))))))))
 refine rg 3 rfl (ra Z Z Z (rs Z Z Z Z Z Z Z (rv Z Z ?_)))
 obtain ⟨is2, hx2, h_2⟩ := bs h_1
 refine rt (xh hx2) (rn (aS (ag (rg 2 rfl (rn (bw rfl h_2 (fun h_3 => ?_) fun h_3 => ?_))))))
 ·clear h h_1 h_2
  refine ag (rg 2 rfl (rs Z Z Z Z Z Z Z (rg 2 rfl (rn (aQ (fun _ _ _ _ _ hi => dF 55 8 (some 9) rfl hi) (aT ?_))))))
  obtain rfl := si h_3
  refine rW ?_
  exact rA [0,1,2,3,4]
 clear h h_1 h_2
 refine aK (ag (rg 4 rfl (bx h_3 fun err1 hx3 h_4 => bt Z Z Z (sv hx3) (rg 3 rfl (ra Z Z Z (rs Z Z Z Z Z Z Z (rv Z Z (rn (aS (ag (rv Z Z (rV rfl (jo Z Z Z) (rn (bw rfl h_4 (fun h_5 => ?_) fun h_5 => ?_))))))))))))))
 ·clear h_3 h_4
  refine ag (rg 2 rfl (rs Z Z Z Z Z Z Z (rg 2 rfl (rn (aT ?_)))))
  obtain rfl := si h_5
  refine rW ?_
  exact rA [0,1,2,3,4]
 clear h_3 h_4
 refine aK (ag (rg 7 rfl (bx h_5 fun safe1 hx4 h_6 => bt Z Z Z (wj hx4) (rv Z Z (rn (aS (aS (bx h_6 fun o5 ho6 h_7 => aq (fun x => x = o5) (fun (x1 : Bool) => ⟨[(0, .ptr 0 0), (1, .int .i64 id1), (6, .ptr 3 0), (9, .ptr 4 0), (11, .ptr 5 0), (13, .bool safe1), (56, .bool x1)], [(0, 0, .int .i64 t1.Shift), (0, 1, .int .i64 t1.Most), (0, 2, .own 6), (0, 3, .own 7), (3, 0, .int .i64 0), (3, 1, .int .i64 0), (3, 2, .int .i64 0), (3, 3, .int .i64 0), (3, 4, .int .i64 0), (3, 5, .int .i64 0), (3, 6, .nilS), (3, 7, .str (sB [])), (3, 8, .int .i64 0), (3, 9, .int .i64 0), (3, 10, .int .i64 0), (3, 11, .int .i64 0), (4, 0, .int .i64 is1.Sub.Id), (4, 1, .int .i64 is1.Sub.Version), (4, 2, .int .i64 is1.Sub.Region.Rect.X1), (4, 3, .int .i64 is1.Sub.Region.Rect.Y1), (4, 4, .int .i64 is1.Sub.Region.Rect.X2), (4, 5, .int .i64 is1.Sub.Region.Rect.Y2), (4, 6, .sl (is1.Sub.Region.Poly.map aH)), (4, 7, .str (sB is1.Sub.Filter)), (4, 8, .int .i64 is1.Sub.Cover.X1), (4, 9, .int .i64 is1.Sub.Cover.Y1), (4, 10, .int .i64 is1.Sub.Cover.X2), (4, 11, .int .i64 is1.Sub.Cover.Y2), (4, 12, .int .i64 is1.F.Kind), (4, 13, .str (sB is1.F.Name)), (4, 14, .str (sB is1.F.Op)), (4, 15, .sl (is1.F.Vals.map au)), (4, 16, .sl (am is1.F.L)), (5, 0, .int .i64 err1.1.Rect.X1), (5, 1, .int .i64 err1.1.Rect.Y1), (5, 2, .int .i64 err1.1.Rect.X2), (5, 3, .int .i64 err1.1.Rect.Y2), (5, 4, .sl (err1.1.Poly.map aH))], [(6, bO (bj .i64) (fun x : aw => .agg (az x)) t1.L), (7, bO (bj .i64) (fun x : Int => .int .i64 x) t1.Last)], 8⟩) ?_ ?_))))))))
 ·clear h_5 h_6
  refine aR (rg 3 rfl (dN Z Z Z Z Z ho6 (fun ho6_1 => ?_) fun ho6_1 => ?_))
  ·clear ho6
   exact rg 5 rfl (rn (si ho6_1 ▸ cN [0,1,2,6,7,8,3,4]))
  clear ho6
  exact rg 4 rfl (rn (si ho6_1 ▸ cN [0,1,2,6,7,8,3,4]))
 clear h_5 h_6
 rintro x1 rfl
 refine ch (bw rfl h_7 (fun h_8 => ?_) fun h_8 => ?_)
 ·clear h_7
  refine ag (rg 2 rfl (rs Z Z Z Z Z Z Z (rg 2 rfl (rn (aQ (fun _ _ _ _ _ hi => dF 55 8 (some 8) rfl hi) (aT ?_))))))
  obtain rfl := si h_8
  refine rW ?_
  exact rA [0,1,2,6,7]
 clear h_7
 refine aK (ag (rg 3 rfl (rs Z Z Z Z Z Z Z (rn (aS (ag (rg 2 rfl (rn (bx h_8 fun o7 ho8 h_9 => aq (fun x => Sum.inl x = o7) (fun (((s1, s2, s3, s4, s5, l1)) : Int × Int × Int × Int × Int × (List (Int × Int))) => ⟨[(0, .ptr 0 0), (1, .int .i64 id1), (6, .ptr 3 0), (9, .ptr 4 0), (13, .bool safe1)], [(0, 0, .int .i64 t1.Shift), (0, 1, .int .i64 t1.Most), (0, 2, .own 5), (0, 3, .own 6), (3, 0, .int .i64 0), (3, 1, .int .i64 0), (3, 2, .int .i64 0), (3, 3, .int .i64 0), (3, 4, .int .i64 0), (3, 5, .int .i64 0), (3, 6, .nilS), (3, 7, .str (sB [])), (3, 8, .int .i64 0), (3, 9, .int .i64 0), (3, 10, .int .i64 0), (3, 11, .int .i64 0), (4, 0, .int .i64 is1.Sub.Id), (4, 1, .int .i64 s1), (4, 2, .int .i64 err1.1.Rect.X1), (4, 3, .int .i64 err1.1.Rect.Y1), (4, 4, .int .i64 err1.1.Rect.X2), (4, 5, .int .i64 err1.1.Rect.Y2), (4, 6, .sl (err1.1.Poly.map aH)), (4, 7, .str (sB is1.Sub.Filter)), (4, 8, .int .i64 s2), (4, 9, .int .i64 s3), (4, 10, .int .i64 s4), (4, 11, .int .i64 s5), (4, 12, .int .i64 is1.F.Kind), (4, 13, .str (sB is1.F.Name)), (4, 14, .str (sB is1.F.Op)), (4, 15, .sl (is1.F.Vals.map au)), (4, 16, .sl (am is1.F.L))], [(5, bO (bj .i64) (fun x : aw => .agg (az x)) t1.L), (6, bO (bj .i64) (fun x : Int => .int .i64 x) l1)], 7⟩) ?_ ?_)))))))))
 ·clear h_8
  refine bw rfl ho8 (fun ho8_1 => ?_) fun ho8_1 => ?_
  ·clear ho8
   refine aS (Eu 11 [] Tryz.mix (xv [] Z Z (fun _ => rfl) (xv [] Z Z (fun _ => rfl) (xv [] Z Z (fun _ => rfl) (xv [0] Z Z (fun _ => rfl) (xv [5] Z Z (fun _ => rfl) (bx ho8_1 fun err3 hx10 ho8_2 => xc [] Z Z Z (fun _ => rfl) (fun _ => (oB hx10)) (xv [] Z Z (fun _ => rfl) (xv [] Z Z (fun _ => rfl) (xv [] Z Z (fun _ => rfl) ?_))))))))))
   refine xE [] (.ptr 8 0) 9 _ _ Z Z (by
     refine ra Z Z Z ?_
     exact rn ⟨rfl, rfl⟩) (by rfl) (by rfl) (by rfl) ?_
   refine xE [8] .any 9 _ _ Z Z (by
     refine rs Z Z Z Z Z Z Z ?_
     exact rn ⟨rfl, rfl⟩) (by rfl) (by rfl) (by rfl) ?_
   refine xn (by kernel_rfl) (rv Z Z (rn (aS (ag (rv Z Z (rV rfl (jo Z Z Z) (rn (bw rfl ho8_2 (fun ho8_3 => ?_) fun ho8_3 => ?_))))))))
   ·clear ho8_1 ho8_2
    refine ag (rg 2 rfl (rs Z Z Z Z Z Z Z (rg 2 rfl (rn (aT ?_)))))
    cases ho8_3
    have h_10 := n8 h_9
    subst h_10
    refine rW ?_
    exact rA [0,1,2,6,7]
   clear ho8_1 ho8_2
   exact aK (ag (rg 6 rfl (rs Z Z Z Z Z Z Z (rn (ag (rg 3 rfl (rs Z Z Z Z Z Z Z (rn (mw 8 Tryz.mix (dv Z Z (fun _ => rfl) (dv Z Z (fun _ => rfl) (dv Z Z (fun _ => rfl) (dv Z Z (fun _ => rfl) (dv Z Z (fun _ => rfl) (dv Z Z (fun _ => rfl) (dv Z Z (fun _ => rfl) (dv Z Z (fun _ => rfl) (dn (bx ho8_3 fun m1 hx11 ho8_4 => xu (κ := (bj .i64)) (c := (fun x : Int => .int .i64 x)) (b := t1.Last) (kk := id1) (z := (W (is1.Sub.Version + 1))) Z Z Z Z Z Z Z Z Z (rk (congrArg (bO (bj .i64) (fun x : Int => .int .i64 x)) (CS hx11)) (rn (si ho8_4 ▸ cN [0,1,2,3,4,6,7]))))))))))))))))))))))
  clear ho8
  exact aK (si ho8_1 ▸ cN [0,1,2,3,4,6,7])
 clear h_8
 rintro ⟨s1, s2, s3, s4, s5, l1⟩ rfl
 have h_10 := ry h_9
 refine ch (aS (mw 6 Tryz.mix (dv Z Z (fun _ => rfl) (dv Z Z (fun _ => rfl) (dv Z Z (fun _ => rfl) (dv Z Z (fun _ => rfl) (dv Z Z (fun _ => rfl) (dv Z Z (fun _ => rfl) (dn (bx h_10 fun m2 hx12 h_11 => xu (κ := (bj .i64)) (c := (fun x : aw => .agg (az x))) (b := t1.L) (kk := id1) (z := (aw.mk (bf.mk is1.Sub.Id s1 err1.1 is1.Sub.Filter (ba.mk s2 s3 s4 s5)) (aa.mk is1.F.Kind is1.F.Name is1.F.Op is1.F.Vals is1.F.L))) Z Z Z Z Z Z Z Z Z (rk (congrArg (bO (bj .i64) (fun x : aw => .agg (az x))) (CS hx12)) (rn (ag (rg 2 rfl (bx h_11 fun x2 hx13 h_12 => bt Z Z Z (fp hx13) (rv Z Z (rs Z Z Z Z Z Z Z (rg 2 rfl (rn (aQ (fun _ _ _ _ _ hi => dF 55 8 none rfl hi) (aT ?_)))))))))))))))))))))
 obtain rfl := si h_12
 refine rW ?_
 exact rA [0,1,2,5,6]
def cM (fu : Nat) (t1 : aC) (id1 : Int) (g1 : aF) (f1 : aY) : Option (bf × Er × aC) :=
 (bif (decide (id1 < 0)) then some true else (bif (decide (id1 > 2147483647)) then some true else ((kQ fu g1).bind fun x2 => some (!x2))) : Option Bool).bind fun (x1 : Bool) => (bif x1 then some ((bf.mk 0 0 (aF.mk (ba.mk 0 0 0 0) []) [] (ba.mk 0 0 0 0)), (some 1), t1) else ((cY fu f1).bind fun err1 => match err1 with | (.mk kind1 name1 op1 vals1 l1, err2) => bif err2.isSome then some ((bf.mk 0 0 (aF.mk (ba.mk 0 0 0 0) []) [] (ba.mk 0 0 0 0)), err2, t1) else ((yb t1.L id1 (aw.mk (bf.mk 0 0 (aF.mk (ba.mk 0 0 0 0) []) [] (ba.mk 0 0 0 0)) (aa.mk 0 [] [] [] []))).bind fun is1 => (some ((mg t1.L id1).isSome)).bind fun is2 => bif is2 then some ((bf.mk 0 0 (aF.mk (ba.mk 0 0 0 0) []) [] (ba.mk 0 0 0 0)), (some 10), t1) else ((bif (decide ((t1.L.length : Int) ≥ t1.Most)) then some true else ((yb t1.Last id1 0).bind fun x4 => some (decide (x4 > 2147483645))) : Option Bool).bind fun (x3 : Bool) => (bif x3 then some ((bf.mk 0 0 (aF.mk (ba.mk 0 0 0 0) []) [] (ba.mk 0 0 0 0)), (some 8), t1) else ((g9 fu t1.Shift g1).bind fun err4 => bif err4.2.isSome then some ((bf.mk 0 0 (aF.mk (ba.mk 0 0 0 0) []) [] (ba.mk 0 0 0 0)), err4.2, t1) else ((yb t1.Last id1 0).bind fun x5 => (Et t1.Last id1 (W (x5 + 1))).bind fun m1 => (yb m1 id1 0).bind fun x6 => (dy fu (bf.mk id1 x6 g1 f1 err4.1)).bind fun x7 => (Et t1.L id1 (aw.mk x7 (aa.mk kind1 name1 op1 vals1 l1))).bind fun m2 => (dy fu x7).bind fun x8 => some (x8, none, (aC.mk t1.Shift t1.Most m2 m1)))))))))
theorem gU {fu : Nat} {t1 : aC} {id1 : Int} {g1 : aF} {f1 : aY} {r : bf × Er × aC} (h : cM fu t1 id1 g1 f1 = some r) : aP Tryz.prog 10 3 [.ptr 0 0, .int .i64 id1, .agg [.int .i64 g1.Rect.X1, .int .i64 g1.Rect.Y1, .int .i64 g1.Rect.X2, .int .i64 g1.Rect.Y2, .sl (g1.Poly.map aH)], .str (sB f1)] [(0, 0, .int .i64 t1.Shift), (0, 1, .int .i64 t1.Most), (0, 2, .own 1), (0, 3, .own 2)] [(1, bO (bj .i64) (fun x : aw => .agg (az x)) t1.L), (2, bO (bj .i64) (fun x : Int => .int .i64 x) t1.Last)] (fun r_ H_ O_ n_ => r_ = .tup [.agg [.int .i64 r.1.Id, .int .i64 r.1.Version, .int .i64 r.1.Region.Rect.X1, .int .i64 r.1.Region.Rect.Y1, .int .i64 r.1.Region.Rect.X2, .int .i64 r.1.Region.Rect.Y2, .sl (r.1.Region.Poly.map aH), .str (sB r.1.Filter), .int .i64 r.1.Cover.X1, .int .i64 r.1.Cover.Y1, .int .i64 r.1.Cover.X2, .int .i64 r.1.Cover.Y2], .err 55 r.2.1] ∧ H_ = [(0, 0, .int .i64 r.2.2.Shift), (0, 1, .int .i64 r.2.2.Most), (0, 2, .own 3), (0, 3, .own 4)] ∧ O_ = [(3, bO (bj .i64) (fun x : aw => .agg (az x)) r.2.2.L), (4, bO (bj .i64) (fun x : Int => .int .i64 x) r.2.2.Last)] ∧ n_ = 5) := by
 rw [cM] at h
 refine nO Tryz.func10 ?_
 refine aQ (fun _ _ _ _ _ hi => en (κ := (bj .i64)) (c := (fun x : aw => .agg (az x))) 0 2 1 Z Z hi) (aQ (fun _ _ _ _ _ hi => en (κ := (bj .i64)) (c := (fun x : Int => .int .i64 x)) 0 3 2 Z Z hi) (ag (rb Z Z (ra Z Z Z (rv Z Z (rn (aS (aS (bx h fun o1 ho2 h_1 => aq (fun x => x = o1) (fun (x1 : Bool) => ⟨[(0, .ptr 0 0), (1, .int .i64 id1), (3, .str (sB f1)), (6, .ptr 3 0), (8, .ptr 4 0), (26, .bool x1)], [(0, 0, .int .i64 t1.Shift), (0, 1, .int .i64 t1.Most), (0, 2, .own 5), (0, 3, .own 6), (3, 0, .int .i64 g1.Rect.X1), (3, 1, .int .i64 g1.Rect.Y1), (3, 2, .int .i64 g1.Rect.X2), (3, 3, .int .i64 g1.Rect.Y2), (3, 4, .sl (g1.Poly.map aH)), (4, 0, .int .i64 0), (4, 1, .int .i64 0), (4, 2, .int .i64 0), (4, 3, .int .i64 0), (4, 4, .int .i64 0), (4, 5, .int .i64 0), (4, 6, .nilS), (4, 7, .str (sB [])), (4, 8, .int .i64 0), (4, 9, .int .i64 0), (4, 10, .int .i64 0), (4, 11, .int .i64 0)], [(5, bO (bj .i64) (fun x : aw => .agg (az x)) t1.L), (6, bO (bj .i64) (fun x : Int => .int .i64 x) t1.Last)], 7⟩) ?_ ?_)))))))))
 ·clear h
  refine aR (rg 3 rfl (eN Z Z Z Z Z ho2 (fun ho2_1 => ?_) fun ho2_1 => ?_))
  ·clear ho2
   refine rg 4 rfl (eN Z Z Z Z Z ho2_1 (fun ho2_2 => ?_) fun ho2_2 => ?_)
   ·clear ho2_1
    exact rv Z Z (gy Z Z Z (bx ho2_2 fun x2 hx3 ho2_3 => bt Z Z Z (un hx3) (rg 2 rfl (rn (si ho2_3 ▸ cN [0,1,2,5,6,3,4])))))
   clear ho2_1
   exact rg 3 rfl (rn (si ho2_2 ▸ cN [0,1,2,5,6,3,4]))
  clear ho2
  exact rg 7 rfl (rn (si ho2_1 ▸ cN [0,1,2,5,6,3,4]))
 clear h
 rintro x1 rfl
 refine ch (bw rfl h_1 (fun h_2 => ?_) fun h_2 => ?_)
 ·clear h_1
  refine ag (rg 2 rfl (rs Z Z Z Z Z Z Z (rv Z Z (rn (aQ (fun _ _ _ _ _ hi => dF 55 9 (some 1) rfl hi) (aT ?_))))))
  obtain rfl := si h_2
  refine rW ?_
  exact rA [0,1,2,5,6]
 clear h_1
 refine aK (ag (rv Z Z (bx h_2 fun err1 hx4 h_3 => ?_)))
 obtain ⟨⟨kind1, name1, op1, vals1, l1⟩, err2⟩ := err1
 refine bt Z Z Z (sk hx4) (rg 3 rfl (ra Z Z Z (rs Z Z Z Z Z Z Z (rv Z Z (rn (aS (ag (rv Z Z (rV rfl (jo Z Z Z) (rn (bw rfl h_3 (fun h_4 => ?_) fun h_4 => ?_)))))))))))
 ·clear h_2 h_3
  refine ag (rg 2 rfl (rs Z Z Z Z Z Z Z (rv Z Z (rn (aT ?_)))))
  obtain rfl := si h_4
  refine rW ?_
  exact rA [0,1,2,5,6]
 clear h_2 h_3
 refine aK (ag (rg 5 rfl (bx h_4 fun is1 hx5 h_5 => rV rfl (jY (κ := (bj .i64)) (c := (fun x : aw => .agg (az x))) (b := t1.L) (kk := id1) (z := (aw.mk (bf.mk 0 0 (aF.mk (ba.mk 0 0 0 0) []) [] (ba.mk 0 0 0 0)) (aa.mk 0 [] [] [] []))) Z Z Z Z Z Z (by first | exact .inl (.inl rfl) | exact .inr ⟨_, _, rfl, rfl, by repeat (first | exact trivial | refine ⟨by first | exact .inl rfl | exact .inr (.inl ⟨rfl, rfl⟩) | exact .inr (.inr ⟨rfl, _, rfl⟩), ?_⟩)⟩) Z Z Z hx5) ?_)))
 refine rg 3 rfl (ra Z Z Z (rs Z Z Z Z Z Z Z (rv Z Z ?_)))
 obtain ⟨is2, hx6, h_6⟩ := bs h_5
 refine rt (xh hx6) (rn (aS (aB (ag (rg 2 rfl (rn (bw rfl h_6 (fun h_7 => ?_) fun h_7 => ?_)))))))
 ·clear h_4 h_5 h_6
  refine ag (rg 2 rfl (rs Z Z Z Z Z Z Z (rv Z Z (rn (aQ (fun _ _ _ _ _ hi => dF 55 9 (some 10) rfl hi) (aT ?_))))))
  obtain rfl := si h_7
  refine rW ?_
  exact rA [0,1,2,5,6]
 clear h_4 h_5 h_6
 refine aS (bx h_7 fun o7 ho8 h_8 => aq (fun x => x = o7) (fun (x3 : Bool) => ⟨[(0, .ptr 0 0), (1, .int .i64 id1), (3, .str (sB f1)), (6, .ptr 3 0), (8, .ptr 4 0), (10, .ptr 5 0), (51, .bool x3)], [(0, 0, .int .i64 t1.Shift), (0, 1, .int .i64 t1.Most), (0, 2, .own 6), (0, 3, .own 7), (3, 0, .int .i64 g1.Rect.X1), (3, 1, .int .i64 g1.Rect.Y1), (3, 2, .int .i64 g1.Rect.X2), (3, 3, .int .i64 g1.Rect.Y2), (3, 4, .sl (g1.Poly.map aH)), (4, 0, .int .i64 0), (4, 1, .int .i64 0), (4, 2, .int .i64 0), (4, 3, .int .i64 0), (4, 4, .int .i64 0), (4, 5, .int .i64 0), (4, 6, .nilS), (4, 7, .str (sB [])), (4, 8, .int .i64 0), (4, 9, .int .i64 0), (4, 10, .int .i64 0), (4, 11, .int .i64 0), (5, 0, .int .i64 kind1), (5, 1, .str (sB name1)), (5, 2, .str (sB op1)), (5, 3, .sl (vals1.map au)), (5, 4, .sl (am l1))], [(6, bO (bj .i64) (fun x : aw => .agg (az x)) t1.L), (7, bO (bj .i64) (fun x : Int => .int .i64 x) t1.Last)], 8⟩) ?_ ?_)
 ·clear h_7
  refine mw 20 Tryz.mix (dv Z Z (fun _ => rfl) (dv Z Z (fun _ => rfl) (dv Z Z (fun _ => rfl) (dv Z Z (fun _ => rfl) (dV Z Z (fun _ => Fq (κ := (bj .i64)) (c := (fun x : aw => .agg (az x))) Z Z Z Z) (dv Z Z (fun _ => rfl) (dv Z Z (fun _ => rfl) (dv Z Z (fun _ => rfl) (dv Z Z (fun _ => rfl) (dv Z Z (fun _ => rfl) (dv Z Z (fun _ => rfl) (Ai Z Z ho8 (fun ho8_1 => ?_) fun ho8_1 => ?_))))))))))))
  ·clear ho8
   exact bB Z Z (bB Z Z (bB Z Z (bB Z Z (bB Z Z (bB Z Z (bB Z Z (dv Z Z (fun _ => rfl) (dv Z Z (fun _ => rfl) (dn (rn (si ho8_1 ▸ cN [0,1,2,3,4,7,5,6])))))))))))
  clear ho8
  refine dv Z Z (fun _ => rfl) (dv Z Z (fun _ => rfl) (dv Z Z (fun _ => rfl) (dv Z Z (fun _ => rfl) (dv Z Z (fun _ => rfl) (bx ho8_1 fun x4 hx9 ho8_2 => dV Z Z (fun _ => pj (κ := (bj .i64)) (c := (fun x : Int => .int .i64 x)) (b := t1.Last) (kk := id1) (z := 0) Z Z Z Z Z Z (by first | exact .inl (.inl rfl) | exact .inr ⟨_, _, rfl, rfl, by repeat (first | exact trivial | refine ⟨by first | exact .inl rfl | exact .inr (.inl ⟨rfl, rfl⟩) | exact .inr (.inr ⟨rfl, _, rfl⟩), ?_⟩)⟩) Z Z Z hx9) ?_)))))
  exact dv Z Z (fun _ => rfl) (dv Z Z (fun _ => rfl) (dv Z Z (fun _ => rfl) (dn (rn (si ho8_2 ▸ cN [0,1,2,3,4,7,5,6])))))
 clear h_7
 rintro x3 rfl
 refine ch (bw rfl h_8 (fun h_9 => ?_) fun h_9 => ?_)
 ·clear h_8
  refine ag (rg 2 rfl (rs Z Z Z Z Z Z Z (rv Z Z (rn (aQ (fun _ _ _ _ _ hi => dF 55 9 (some 8) rfl hi) (aT ?_))))))
  obtain rfl := si h_9
  refine rW ?_
  exact rA [0,1,2,6,7]
 clear h_8
 refine aK (ah (aS (Eu 11 [] Tryz.mix (xv [] Z Z (fun _ => rfl) (xv [] Z Z (fun _ => rfl) (xv [] Z Z (fun _ => rfl) (xv [0] Z Z (fun _ => rfl) (xv [3] Z Z (fun _ => rfl) (bx h_9 fun err4 hx11 h_10 => xc [] Z Z Z (fun _ => rfl) (fun _ => (oB hx11)) (xv [] Z Z (fun _ => rfl) (xv [] Z Z (fun _ => rfl) (xv [] Z Z (fun _ => rfl) ?_))))))))))))
 refine xE [] (.ptr 8 0) 9 _ _ Z Z (by
     refine ra Z Z Z ?_
     exact rn ⟨rfl, rfl⟩) (by rfl) (by rfl) (by rfl) ?_
 refine xE [8] .any 9 _ _ Z Z (by
     refine rs Z Z Z Z Z Z Z ?_
     exact rn ⟨rfl, rfl⟩) (by rfl) (by rfl) (by rfl) ?_
 refine xn (by kernel_rfl) (rv Z Z (rn (aS (ag (rv Z Z (rV rfl (jo Z Z Z) (rn (bw rfl h_10 (fun h_11 => ?_) fun h_11 => ?_))))))))
 ·clear h_9 h_10
  refine ag (rg 2 rfl (rs Z Z Z Z Z Z Z (rv Z Z (rn (aT ?_)))))
  obtain rfl := si h_11
  refine rW ?_
  exact rA [0,1,2,6,7]
 clear h_9 h_10
 refine aK (ag (rg 5 rfl (bx h_11 fun x5 hx12 h_12 => rV rfl (pj (κ := (bj .i64)) (c := (fun x : Int => .int .i64 x)) (b := t1.Last) (kk := id1) (z := 0) Z Z Z Z Z Z (by first | exact .inl (.inl rfl) | exact .inr ⟨_, _, rfl, rfl, by repeat (first | exact trivial | refine ⟨by first | exact .inl rfl | exact .inr (.inl ⟨rfl, rfl⟩) | exact .inr (.inr ⟨rfl, _, rfl⟩), ?_⟩)⟩) Z Z Z hx12) ?_)))
 refine rv Z Z (bx h_12 fun m1 hx13 h_13 => xu (κ := (bj .i64)) (c := (fun x : Int => .int .i64 x)) (b := t1.Last) (kk := id1) (z := (W (x5 + 1))) Z Z Z Z Z Z Z Z Z (rk (congrArg (bO (bj .i64) (fun x : Int => .int .i64 x)) (CS hx13)) (rn (aS (mw 13 Tryz.mix (dv Z Z (fun _ => rfl) (dv Z Z (fun _ => rfl) (dv Z Z (fun _ => rfl) (dv Z Z (fun _ => rfl) (dv Z Z (fun _ => rfl) (dv Z Z (fun _ => rfl) (bx h_13 fun x6 hx14 h_14 => dV Z Z (fun _ => pj (κ := (bj .i64)) (c := (fun x : Int => .int .i64 x)) (b := m1) (kk := id1) (z := 0) Z Z Z Z Z Z (by first | exact .inl (.inl rfl) | exact .inr ⟨_, _, rfl, rfl, by repeat (first | exact trivial | refine ⟨by first | exact .inl rfl | exact .inr (.inl ⟨rfl, rfl⟩) | exact .inr (.inr ⟨rfl, _, rfl⟩), ?_⟩)⟩) Z Z Z hx14) ?_))))))))))))
 refine dv Z Z (fun _ => rfl) (dv Z Z (fun _ => rfl) (dv Z Z (fun _ => rfl) (dv Z Z (fun _ => rfl) (bx h_14 fun x7 hx15 h_15 => dc Z Z Z Z (fun _ => rfl) (fun _ => (fp hx15)) (da Z Z Z (dn (rs Z Z Z Z Z Z Z (rn (aS (mw 8 Tryz.mix (dv Z Z (fun _ => rfl) (dv Z Z (fun _ => rfl) (dv Z Z (fun _ => rfl) (dv Z Z (fun _ => rfl) (dv Z Z (fun _ => rfl) (dv Z Z (fun _ => rfl) (dv Z Z (fun _ => rfl) (dv Z Z (fun _ => rfl) (dn (bx h_15 fun m2 hx16 h_16 => xu (κ := (bj .i64)) (c := (fun x : aw => .agg (az x))) (b := t1.L) (kk := id1) (z := (aw.mk x7 (aa.mk kind1 name1 op1 vals1 l1))) Z Z Z Z Z Z Z Z Z (rk (congrArg (bO (bj .i64) (fun x : aw => .agg (az x))) (CS hx16)) (rn (ag (rv Z Z (bx h_16 fun x8 hx17 h_17 => bt Z Z Z (fp hx17) (rs Z Z Z Z Z Z Z (rv Z Z (rn (aQ (fun _ _ _ _ _ hi => dF 55 9 none rfl hi) (aT ?_))))))))))))))))))))))))))))))
 obtain rfl := si h_17
 refine rW ?_
 exact rA [0,1,2,6,7]
end
structure aE where
 Kind : Int
 At : Int
 N : Int
 S : aY
def aJ (x : aE) : List AV := [.int .i64 x.Kind, .int .i64 x.At, .int .i64 x.N, .str (sB x.S)]
def iL (fu : Nat) (c1 : Int) : Option Bool :=
 bif (decide (c1 ≥ 97)) then ((some (decide (c1 ≤ 122))).bind fun x1 => some x1) else some false
section
attribute [local irreducible] cg aM DP ai aP Decidable.decide
theorem pq {fu : Nat} {c1 : Int} {r : Bool} (h : iL fu c1 = some r) : ai Tryz.prog 201 [.int .u8 c1] (· = .bool r) := by
 rw [iL] at h
 refine cf Tryz.func201 ?_
 refine ag (rv Z Z (rn (ag (rg 3 rfl (dN Z Z Z Z Z h (fun h_1 => ?_) fun h_1 => ?_)))))
 ·clear h
  refine rg 4 rfl ?_
  obtain ⟨x1, hx1, h_2⟩ := bs h_1
  exact rt (xh hx1) (rn (aT (si h_2 ▸ rF)))
 clear h
 exact rg 3 rfl (rn (aT (si h_1 ▸ rF)))
def eu (fu : Nat) (c1 : Int) : Option Bool :=
 bif (decide (c1 ≥ 48)) then some (decide (c1 ≤ 57)) else some false
theorem j7 {fu : Nat} {c1 : Int} {r : Bool} (h : eu fu c1 = some r) : ai Tryz.prog 202 [.int .u8 c1] (· = .bool r) := by
 rw [eu] at h
 refine cf Tryz.func202 ?_
 refine ag (rv Z Z (rn (ag (rg 3 rfl (dN Z Z Z Z Z h (fun h_1 => ?_) fun h_1 => ?_)))))
 ·clear h
  exact rg 4 rfl (rn (aT (si h_1 ▸ rF)))
 clear h
 exact rg 3 rfl (rn (aT (si h_1 ▸ rF)))
def gP (fu : Nat) (s1 : aY) (at1 : Int) : Option (Int × Int × Bool) :=
 (gi s1 at1).bind fun c1 => (some ((c1.toNat : Int) == 45)).bind fun minus1 => (bif minus1 then some (W (at1 + 1)) else some at1 : Option Int).bind fun (at2 : Int) => ((bm (ε := Int × Int × Bool) (τ := Int × Int × Bool) (fun (((at3, n1, big1)) : Int × Int × Bool) => ((bif (decide (at3 < (s1.length : Int))) then ((gi s1 at3).bind fun c2 => (eu fu (c2.toNat : Int)).bind fun x2 => some x2) else some false : Option Bool).bind fun (x1 : Bool) => (bif x1 then ((bif big1 then some true else (bif (decide (n1 > 922337203685477580)) then some true else (bif (n1 == 922337203685477580) then ((gi s1 at3).bind fun c3 => (some (decide ((c3.toNat : Int) > 56))).bind fun big5 => some big5) else some false)) : Option Bool).bind fun (big4 : Bool) => ((gi s1 at3).bind fun c4 => (some (IntKind.wrap .u64 ((IntKind.wrap .u64 (10 * n1)) + (IntKind.wrap .u64 (IntKind.wrap .u8 ((c4.toNat : Int) - 48)))))).bind fun n4 => some (Sum.inl (W (at3 + 1), n4, big4)))) else some (Sum.inr (at3, n1, big1))))) fu (at2, 0, false)).bind fun (((at5, n3, big3)) : Int × Int × Bool) => ((bif (at5 == at2) then some true else (bif (decide ((W (at5 - at2)) > 1)) then ((gi s1 at2).bind fun c5 => bif ((c5.toNat : Int) == 48) then some true else (bif big3 then some true else (bif minus1 then (bif (n3 == 0) then some true else (bif (!minus1) then some (n3 == 9223372036854775808) else some false)) else (bif (!minus1) then some (n3 == 9223372036854775808) else some false)))) else (bif big3 then some true else (bif minus1 then (bif (n3 == 0) then some true else (bif (!minus1) then some (n3 == 9223372036854775808) else some false)) else (bif (!minus1) then some (n3 == 9223372036854775808) else some false)))) : Option Bool).bind fun (x3 : Bool) => (bif x3 then some (0, at5, false) else (bif minus1 then ((some (W ((W (0 - (W (IntKind.wrap .u64 (n3 - 1))))) - 1))).bind fun x4 => some (x4, at5, true)) else some (W n3, at5, true)))))
theorem rp {fu : Nat} {s1 : aY} {at1 : Int} {r : Int × Int × Bool} (h : gP fu s1 at1 = some r) : ai Tryz.prog 203 [.str (sB s1), .int .i64 at1] (· = .tup [.int .i64 r.1, .int .i64 r.2.1, .bool r.2.2]) := by
 rw [gP] at h
 refine cf Tryz.func203 ?_
 refine ag (rg 3 rfl (rn (ag (rg 2 rfl (bx h fun c1 hx1 h_1 => rV rfl (dw Z Z Z Z hx1) (rg 2 rfl ?_))))))
 obtain ⟨minus1, hx2, h_2⟩ := bs h_1
 refine rt (xh hx2) (rn (aS (ag (rv Z Z (rn (bx h_2 fun o3 ho4 h_3 => aq (fun x => x = o3) (fun (at2 : Int) => ⟨[(0, .str (sB s1)), (1, .int .i64 at2), (7, .bool minus1)], [], [], 0⟩) ?_ ?_))))))
 ·clear h h_1 h_2
  refine bw rfl ho4 (fun ho4_1 => ?_) fun ho4_1 => ?_
  ·clear ho4
   exact aR (rg 3 rfl (rn (si ho4_1 ▸ cN [])))
  clear ho4
  exact aK (si ho4_1 ▸ cN [])
 clear h h_1 h_2
 rintro at2 rfl
 refine ch (ag (rg 2 rfl (rn (ag (rv Z Z (rn (ag (rv Z Z (rn (aS (bx h_3 fun e5 hl6 h_4 => aq (fun x => x = e5) (fun (((at5, n3, big3)) : Int × Int × Bool) => ⟨[(0, .str (sB s1)), (1, .int .i64 at5), (7, .bool minus1), (8, .int .i64 at2), (9, .int .u64 n3), (10, .bool big3)], [], [], 0⟩) ?_ ?_)))))))))))
 ·clear h_3
  refine aB (be hl6 (fun (((at3, n1, big1)) : Int × Int × Bool) => ⟨[(0, .str (sB s1)), (1, .int .i64 at3), (7, .bool minus1), (8, .int .i64 at2), (9, .int .u64 n1), (10, .bool big1)], [], [], 0⟩) [] rfl zs ?_)
  intro v o9 ho7 hE8
  obtain ⟨at3, n1, big1⟩ := v
  refine ch (aS (aS (bx ho7 fun o10 ho11 ho7_1 => aq (fun x => x = o10) (fun (x1 : Bool) => ⟨[(0, .str (sB s1)), (1, .int .i64 at3), (7, .bool minus1), (8, .int .i64 at2), (9, .int .u64 n1), (10, .bool big1), (28, .bool x1)], [], [], 0⟩) ?_ ?_)))
  ·clear ho7
   refine aR (rg 5 rfl (dN Z Z Z Z Z ho11 (fun ho11_1 => ?_) fun ho11_1 => ?_))
   ·clear ho11
    exact rg 2 rfl (gy Z Z Z (bx ho11_1 fun c2 hx12 ho11_2 => rV rfl (dw Z Z Z Z hx12) (gy Z Z Z (bx ho11_2 fun x2 hx13 ho11_3 => bt Z Z Z (j7 hx13) (rv Z Z (rn (si ho11_3 ▸ cN [])))))))
   clear ho11
   exact rg 4 rfl (rn (si ho11_1 ▸ cN []))
  clear ho7
  rintro x1 rfl
  refine ch (bw rfl ho7_1 (fun ho7_2 => ?_) fun ho7_2 => ?_)
  ·clear ho7_1
   refine aK (aB (aS (bx ho7_2 fun o14 ho15 ho7_3 => aq (fun x => x = o14) (fun (big4 : Bool) => ⟨[(0, .str (sB s1)), (1, .int .i64 at3), (7, .bool minus1), (8, .int .i64 at2), (9, .int .u64 n1), (10, .bool big4)], [], [], 0⟩) ?_ ?_)))
   ·clear ho7_2
    refine aR (rg 2 rfl (eN Z Z Z Z Z ho15 (fun ho15_1 => ?_) fun ho15_1 => ?_))
    ·clear ho15
     refine rg 4 rfl (eN Z Z Z Z Z ho15_1 (fun ho15_2 => ?_) fun ho15_2 => ?_)
     ·clear ho15_1
      refine rg 3 rfl (dN Z Z Z Z Z ho15_2 (fun ho15_3 => ?_) fun ho15_3 => ?_)
      ·clear ho15_2
       refine rg 2 rfl (gy Z Z Z (bx ho15_3 fun c3 hx16 ho15_4 => rV rfl (dw Z Z Z Z hx16) (rg 4 rfl ?_)))
       obtain ⟨big5, hx17, ho15_5⟩ := bs ho15_4
       exact rt (xh hx17) (rn (si ho15_5 ▸ cN []))
      clear ho15_2
      exact rg 6 rfl (rn (si ho15_3 ▸ cN []))
     clear ho15_1
     exact rg 2 rfl (gu Z Z Z Z (gu Z Z Z Z (gu Z Z Z Z (gu Z Z Z Z (rg 3 rfl (rn (si ho15_2 ▸ cN [])))))))
    clear ho15
    exact rg 6 rfl (gu Z Z Z Z (gu Z Z Z Z (gu Z Z Z Z (gu Z Z Z Z (rg 3 rfl (rn (si ho15_1 ▸ cN [])))))))
   clear ho7_2
   rintro big4 rfl
   refine ch (ag (rg 4 rfl (bx ho7_3 fun c4 hx18 ho7_4 => rV rfl (dw Z Z Z Z hx18) (rg 4 rfl ?_))))
   obtain ⟨n4, hx19, ho7_5⟩ := bs ho7_4
   exact rt (Ew hx19) (rn (aR (rg 3 rfl (rn (ah (si ho7_5 ▸ lN []))))))
  clear ho7_1
  refine aW (xX ?_)
  cases ho7_2
  have hq := hE8 _ rfl
  subst hq
  exact cN []
 clear h_3
 rintro ⟨at5, n3, big3⟩ rfl
 refine ch (aS (aS (bx h_4 fun o20 ho21 h_5 => aq (fun x => x = o20) (fun (x3 : Bool) => ⟨[(1, .int .i64 at5), (7, .bool minus1), (9, .int .u64 n3), (86, .bool x3)], [], [], 0⟩) ?_ ?_)))
 ·clear h_4
  refine aR (rg 4 rfl (eN Z Z Z Z Z ho21 (fun ho21_1 => ?_) fun ho21_1 => ?_))
  ·clear ho21
   refine rg 5 rfl (dN Z Z Z Z Z ho21_1 (fun ho21_2 => ?_) fun ho21_2 => ?_)
   ·clear ho21_1
    refine rg 2 rfl (gy Z Z Z (bx ho21_2 fun c5 hx22 ho21_3 => rV rfl (dw Z Z Z Z hx22) (rg 4 rfl (eN Z Z Z Z Z ho21_3 (fun ho21_4 => ?_) fun ho21_4 => ?_))))
    ·clear ho21_2 ho21_3
     refine rg 3 rfl (eN Z Z Z Z Z ho21_4 (fun ho21_5 => ?_) fun ho21_5 => ?_)
     ·clear ho21_4
      refine rg 2 rfl (dN Z Z Z Z Z ho21_5 (fun ho21_6 => ?_) fun ho21_6 => ?_)
      ·clear ho21_5
       refine rg 5 rfl (eN Z Z Z Z Z ho21_6 (fun ho21_7 => ?_) fun ho21_7 => ?_)
       ·clear ho21_6
        refine rg 3 rfl (dN Z Z Z Z Z ho21_7 (fun ho21_8 => ?_) fun ho21_8 => ?_)
        ·clear ho21_7
         exact rg 4 rfl (rn (si ho21_8 ▸ cN []))
        clear ho21_7
        exact rg 3 rfl (rn (si ho21_8 ▸ cN []))
       clear ho21_6
       exact rg 2 rfl (gu Z Z Z Z (gu Z Z Z Z (rg 2 rfl (rn (si ho21_7 ▸ cN [])))))
      clear ho21_5
      refine rg 7 rfl (dN Z Z Z Z Z ho21_6 (fun ho21_7 => ?_) fun ho21_7 => ?_)
      ·clear ho21_6
       exact rg 4 rfl (rn (si ho21_7 ▸ cN []))
      clear ho21_6
      exact rg 3 rfl (rn (si ho21_7 ▸ cN []))
     clear ho21_4
     exact rg 1 rfl (gu Z Z Z Z (gu Z Z Z Z (rg 6 rfl (gu Z Z Z Z (gu Z Z Z Z (rg 2 rfl (rn (si ho21_5 ▸ cN []))))))))
    clear ho21_2 ho21_3
    exact rg 4 rfl (gu Z Z Z Z (gu Z Z Z Z (rg 6 rfl (gu Z Z Z Z (gu Z Z Z Z (rg 2 rfl (rn (si ho21_4 ▸ cN []))))))))
   clear ho21_1
   refine rg 9 rfl (eN Z Z Z Z Z ho21_2 (fun ho21_3 => ?_) fun ho21_3 => ?_)
   ·clear ho21_2
    refine rg 2 rfl (dN Z Z Z Z Z ho21_3 (fun ho21_4 => ?_) fun ho21_4 => ?_)
    ·clear ho21_3
     refine rg 5 rfl (eN Z Z Z Z Z ho21_4 (fun ho21_5 => ?_) fun ho21_5 => ?_)
     ·clear ho21_4
      refine rg 3 rfl (dN Z Z Z Z Z ho21_5 (fun ho21_6 => ?_) fun ho21_6 => ?_)
      ·clear ho21_5
       exact rg 4 rfl (rn (si ho21_6 ▸ cN []))
      clear ho21_5
      exact rg 3 rfl (rn (si ho21_6 ▸ cN []))
     clear ho21_4
     exact rg 2 rfl (gu Z Z Z Z (gu Z Z Z Z (rg 2 rfl (rn (si ho21_5 ▸ cN [])))))
    clear ho21_3
    refine rg 7 rfl (dN Z Z Z Z Z ho21_4 (fun ho21_5 => ?_) fun ho21_5 => ?_)
    ·clear ho21_4
     exact rg 4 rfl (rn (si ho21_5 ▸ cN []))
    clear ho21_4
    exact rg 3 rfl (rn (si ho21_5 ▸ cN []))
   clear ho21_2
   exact rg 1 rfl (gu Z Z Z Z (gu Z Z Z Z (rg 6 rfl (gu Z Z Z Z (gu Z Z Z Z (rg 2 rfl (rn (si ho21_3 ▸ cN []))))))))
  clear ho21
  exact rg 4 rfl (gu Z Z Z Z (gu Z Z Z Z (gu Z Z Z Z (gu Z Z Z Z (rg 8 rfl (gu Z Z Z Z (gu Z Z Z Z (rg 6 rfl (gu Z Z Z Z (gu Z Z Z Z (rg 2 rfl (rn (si ho21_1 ▸ cN [])))))))))))))
 clear h_4
 rintro x3 rfl
 refine ch (bw rfl h_5 (fun h_6 => ?_) fun h_6 => ?_)
 ·clear h_5
  exact ag (rg 4 rfl (rn (aT (si h_6 ▸ rF))))
 clear h_5
 refine aK (aS (ag (rv Z Z (rn (bw rfl h_6 (fun h_7 => ?_) fun h_7 => ?_)))))
 ·clear h_6
  refine ag (rg 7 rfl ?_)
  obtain ⟨x4, hx23, h_8⟩ := bs h_7
  exact rt (Ew hx23) (rg 2 rfl (rn (aT (si h_8 ▸ rF))))
 clear h_6
 exact aK (ag (rg 6 rfl (rn (aT (si h_7 ▸ rF)))))
def gh (fu : Nat) (s1 : aY) (at1 : Int) : Option (aE × Int × Bool) :=
 (gi s1 at1).bind fun c1 => (iL fu (c1.toNat : Int)).bind fun a1 => (eu fu (c1.toNat : Int)).bind fun d1 => bif a1 then ((bm (ε := Int) (τ := Int) (fun (to1 : Int) => ((bif (decide (to1 < (s1.length : Int))) then ((gi s1 to1).bind fun c2 => (iL fu (c2.toNat : Int)).bind fun x2 => bif x2 then some true else ((gi s1 to1).bind fun c3 => (eu fu (c3.toNat : Int)).bind fun x3 => some x3)) else some false : Option Bool).bind fun (x1 : Bool) => (bif x1 then some (Sum.inl (W (to1 + 1))) else some (Sum.inr to1)))) fu at1).bind fun (to3 : Int) => ((kC s1 at1 to3).bind fun s2 => (bif (s2 == [97, 110, 100]) then some true else (bif (s2 == [111, 114]) then some true else (bif (s2 == [110, 111, 116]) then some true else (bif (s2 == [105, 110]) then some true else some (s2 == [116, 114, 117, 101])))) : Option Bool).bind fun (x4 : Bool) => ((bif x4 then some 2 else some 1 : Option Int).bind fun (t1 : Int) => ((some (decide ((W (to3 - at1)) ≤ 20))).bind fun x5 => some ((aE.mk t1 at1 0 s2), to3, x5))))) else ((bif d1 then some true else some ((c1.toNat : Int) == 45) : Option Bool).bind fun (x6 : Bool) => (bif x6 then ((gP fu s1 at1).bind fun n1 => some ((aE.mk 3 at1 n1.1 []), n1.2.1, n1.2.2)) else (bif ((c1.toNat : Int) == 34) then ((bm (ε := Int) (τ := Int) (fun (to4 : Int) => ((bif (decide (to4 < (s1.length : Int))) then ((gi s1 to4).bind fun c4 => bif (decide ((c4.toNat : Int) ≥ 32)) then ((gi s1 to4).bind fun c5 => bif (decide ((c5.toNat : Int) ≤ 126)) then ((gi s1 to4).bind fun c6 => some ((c6.toNat : Int) != 34)) else some false) else some false) else some false : Option Bool).bind fun (x7 : Bool) => (bif x7 then some (Sum.inl (W (to4 + 1))) else some (Sum.inr to4)))) fu (W (at1 + 1))).bind fun (to6 : Int) => ((bif (to6 == (s1.length : Int)) then some true else some (decide ((W ((W (to6 - at1)) - 1)) > 200)) : Option Bool).bind fun (x8 : Bool) => (bif x8 then some ((aE.mk 0 0 0 []), to6, false) else ((kC s1 (W (at1 + 1)) to6).bind fun s4 => (gi s1 to6).bind fun c8 => (some ((c8.toNat : Int) == 34)).bind fun x9 => some ((aE.mk 4 at1 0 s4), W (to6 + 1), x9))))) else ((bif (decide ((W (at1 + 1)) < (s1.length : Int))) then ((kC s1 at1 (W (at1 + 2))).bind fun s5 => some s5) else some [] : Option aY).bind fun (two1 : aY) => ((bif (two1 == [60, 61]) then some true else (bif (two1 == [33, 61]) then some true else (bif (two1 == [62, 61]) then some true else some (two1 == [94, 61]))) : Option Bool).bind fun (x10 : Bool) => (bif x10 then some ((aE.mk 5 at1 0 two1), W (at1 + 2), true) else ((kC s1 at1 (W (at1 + 1))).bind fun s6 => bif (s6 == [40]) then some ((aE.mk 5 at1 0 s6), W (at1 + 1), true) else (bif (s6 == [41]) then some ((aE.mk 5 at1 0 s6), W (at1 + 1), true) else (bif (s6 == [44]) then some ((aE.mk 5 at1 0 s6), W (at1 + 1), true) else (bif (s6 == [60]) then some ((aE.mk 5 at1 0 s6), W (at1 + 1), true) else (bif (s6 == [61]) then some ((aE.mk 5 at1 0 s6), W (at1 + 1), true) else some ((aE.mk 5 at1 0 s6), W (at1 + 1), s6 == [62]))))))))))))
theorem pY {fu : Nat} {s1 : aY} {at1 : Int} {r : aE × Int × Bool} (h : gh fu s1 at1 = some r) : ai Tryz.prog 141 [.str (sB s1), .int .i64 at1] (· = .tup [.agg [.int .i64 r.1.Kind, .int .i64 r.1.At, .int .i64 r.1.N, .str (sB r.1.S)], .int .i64 r.2.1, .bool r.2.2]) := by
 rw [gh] at h
 refine cf Tryz.func141 ?_
 refine ag (ra Z Z Z (rg 2 rfl (rn (ag (rg 2 rfl (bx h fun c1 hx1 h_1 => rV rfl (dw Z Z Z Z hx1) (rv Z Z (rn (ag (rg 2 rfl (rn (ag (rv Z Z (bx h_1 fun a1 hx2 h_2 => bt Z Z Z (pq hx2) (rv Z Z (rn (ag (rv Z Z (bx h_2 fun d1 hx3 h_3 => bt Z Z Z (j7 hx3) (rv Z Z (rn (aS (ag (rv Z Z (rn (bw rfl h_3 (fun h_4 => ?_) fun h_4 => ?_))))))))))))))))))))))))))
 ·clear h h_1 h_2 h_3
  refine aS (bx h_4 fun e4 hl5 h_5 => aq (fun x => x = e4) (fun (to3 : Int) => ⟨[(0, .str (sB s1)), (1, .int .i64 at1), (4, .ptr 0 0), (8, .int .i64 to3)], [(0, 0, .int .i64 0), (0, 1, .int .i64 0), (0, 2, .int .i64 0), (0, 3, .str (sB []))], [], 1⟩) ?_ ?_)
  ·clear h_4
   refine aB (be hl5 (fun (to1 : Int) => ⟨[(0, .str (sB s1)), (1, .int .i64 at1), (4, .ptr 0 0), (8, .int .i64 to1)], [(0, 0, .int .i64 0), (0, 1, .int .i64 0), (0, 2, .int .i64 0), (0, 3, .str (sB []))], [], 1⟩) [0] rfl zs ?_)
   intro to1 o8 ho6 hE7
   refine ch (aS (aS (bx ho6 fun o9 ho10 ho6_1 => aq (fun x => x = o9) (fun (x1 : Bool) => ⟨[(0, .str (sB s1)), (1, .int .i64 at1), (4, .ptr 0 0), (8, .int .i64 to1), (41, .bool x1)], [(0, 0, .int .i64 0), (0, 1, .int .i64 0), (0, 2, .int .i64 0), (0, 3, .str (sB []))], [], 1⟩) ?_ ?_)))
   ·clear ho6
    refine aR (rg 5 rfl (dN Z Z Z Z Z ho10 (fun ho10_1 => ?_) fun ho10_1 => ?_))
    ·clear ho10
     refine rg 2 rfl (gy Z Z Z (bx ho10_1 fun c2 hx11 ho10_2 => rV rfl (dw Z Z Z Z hx11) (gy Z Z Z (bx ho10_2 fun x2 hx12 ho10_3 => bt Z Z Z (pq hx12) (rg 1 rfl (eN Z Z Z Z Z ho10_3 (fun ho10_4 => ?_) fun ho10_4 => ?_))))))
     ·clear ho10_1 ho10_2 ho10_3
      exact rg 2 rfl (gy Z Z Z (bx ho10_4 fun c3 hx13 ho10_5 => rV rfl (dw Z Z Z Z hx13) (gy Z Z Z (bx ho10_5 fun x3 hx14 ho10_6 => bt Z Z Z (j7 hx14) (rg 2 rfl (rn (si ho10_6 ▸ cN [0])))))))
     clear ho10_1 ho10_2 ho10_3
     exact rg 5 rfl (rn (si ho10_4 ▸ cN [0]))
    clear ho10
    exact rg 4 rfl (gu Z Z Z Z (gu Z Z Z Z (gu Z Z Z Z (gu Z Z Z Z (rg 2 rfl (rn (si ho10_1 ▸ cN [0])))))))
   clear ho6
   rintro x1 rfl
   refine ch (bw rfl ho6_1 (fun ho6_2 => ?_) fun ho6_2 => ?_)
   ·clear ho6_1
    exact aK (aB (aR (rg 3 rfl (rn (ah (si ho6_2 ▸ lN [0]))))))
   clear ho6_1
   refine aW (xX ?_)
   cases ho6_2
   have hq := hE7 _ rfl
   subst hq
   exact cN [0]
  clear h_4
  rintro to3 rfl
  refine ch (ag (rg 4 rfl (bx h_5 fun s2 hx15 h_6 => rV rfl (gR Z Z Z ⟨_, rfl⟩ ⟨_, rfl⟩ hx15) (rv Z Z (ra Z Z Z (rs Z Z Z Z Z Z Z (rn (aS (aS (bx h_6 fun o16 ho17 h_7 => aq (fun x => x = o16) (fun (x4 : Bool) => ⟨[(1, .int .i64 at1), (4, .ptr 0 0), (8, .int .i64 to3), (11, .ptr 1 0), (72, .bool x4)], [(0, 0, .int .i64 0), (0, 1, .int .i64 0), (0, 2, .int .i64 0), (0, 3, .str (sB [])), (1, 0, .int .i64 1), (1, 1, .int .i64 at1), (1, 2, .int .i64 0), (1, 3, .str (sB s2))], [], 2⟩) ?_ ?_))))))))))
  ·clear h_5 h_6
   refine aR (rg 3 rfl (rt (jH s2 [97, 110, 100]) (rv Z Z (eN Z Z Z Z Z ho17 (fun ho17_1 => ?_) fun ho17_1 => ?_))))
   ·clear ho17
    refine rg 3 rfl (rt (jH s2 [111, 114]) (rg 2 rfl (eN Z Z Z Z Z ho17_1 (fun ho17_2 => ?_) fun ho17_2 => ?_)))
    ·clear ho17_1
     refine rg 3 rfl (rt (jH s2 [110, 111, 116]) (rg 2 rfl (eN Z Z Z Z Z ho17_2 (fun ho17_3 => ?_) fun ho17_3 => ?_)))
     ·clear ho17_2
      refine rg 3 rfl (rt (jH s2 [105, 110]) (rg 2 rfl (eN Z Z Z Z Z ho17_3 (fun ho17_4 => ?_) fun ho17_4 => ?_)))
      ·clear ho17_3
       exact rg 3 rfl (rt (jH s2 [116, 114, 117, 101]) (rv Z Z (rn (si ho17_4 ▸ cN [0,1]))))
      clear ho17_3
      exact rg 3 rfl (rn (si ho17_4 ▸ cN [0,1]))
     clear ho17_2
     exact rg 8 rfl (rn (si ho17_3 ▸ cN [0,1]))
    clear ho17_1
    exact rg 13 rfl (rn (si ho17_2 ▸ cN [0,1]))
   clear ho17
   exact rg 18 rfl (rn (si ho17_1 ▸ cN [0,1]))
  clear h_5 h_6
  rintro x4 rfl
  refine ch (bx h_7 fun o18 ho19 h_8 => aq (fun x => x = o18) (fun (t1 : Int) => ⟨[(1, .int .i64 at1), (4, .ptr 0 0), (8, .int .i64 to3), (11, .ptr 1 0)], [(0, 0, .int .i64 0), (0, 1, .int .i64 0), (0, 2, .int .i64 0), (0, 3, .str (sB [])), (1, 0, .int .i64 t1), (1, 1, .int .i64 at1), (1, 2, .int .i64 0), (1, 3, .str (sB s2))], [], 2⟩) ?_ ?_)
  ·clear h_7
   refine bw rfl ho19 (fun ho19_1 => ?_) fun ho19_1 => ?_
   ·clear ho19
    exact aR (rv Z Z (rs Z Z Z Z Z Z Z (rn (si ho19_1 ▸ cN [0,1]))))
   clear ho19
   exact aK (si ho19_1 ▸ cN [0,1])
  clear h_7
  rintro t1 rfl
  refine ch (ag (rg 6 rfl (rs Z Z Z Z Z Z Z (rg 2 rfl ?_))))
  obtain ⟨x5, hx20, h_9⟩ := bs h_8
  exact rt (xh hx20) (rn (aT (si h_9 ▸ rF)))
 clear h h_1 h_2 h_3
 refine aK (aS (aS (bx h_4 fun o21 ho22 h_5 => aq (fun x => x = o21) (fun (x6 : Bool) => ⟨[(0, .str (sB s1)), (1, .int .i64 at1), (4, .ptr 0 0), (7, .int .u8 (c1.toNat : Int)), (84, .bool x6)], [(0, 0, .int .i64 0), (0, 1, .int .i64 0), (0, 2, .int .i64 0), (0, 3, .str (sB []))], [], 1⟩) ?_ ?_)))
 ·clear h_4
  refine aR (rg 2 rfl (eN Z Z Z Z Z ho22 (fun ho22_1 => ?_) fun ho22_1 => ?_))
  ·clear ho22
   exact rg 3 rfl (rn (si ho22_1 ▸ cN [0]))
  clear ho22
  exact rg 2 rfl (rn (si ho22_1 ▸ cN [0]))
 clear h_4
 rintro x6 rfl
 refine ch (bw rfl h_5 (fun h_6 => ?_) fun h_6 => ?_)
 ·clear h_5
  exact ag (rg 2 rfl (bx h_6 fun n1 hx23 h_7 => bt Z Z Z (rp hx23) (rg 7 rfl (rn (ag (rg 5 rfl (rs Z Z Z Z Z Z Z (rg 2 rfl (rn (aT (si h_7 ▸ rF)))))))))))
 clear h_5
 refine aK (aS (ag (rg 2 rfl (rn (bw rfl h_6 (fun h_7 => ?_) fun h_7 => ?_)))))
 ·clear h_6
  refine ag (rg 3 rfl (rn (aS (bx h_7 fun e24 hl25 h_8 => aq (fun x => x = e24) (fun (to6 : Int) => ⟨[(0, .str (sB s1)), (1, .int .i64 at1), (4, .ptr 0 0), (8, .int .i64 to6)], [(0, 0, .int .i64 0), (0, 1, .int .i64 0), (0, 2, .int .i64 0), (0, 3, .str (sB []))], [], 1⟩) ?_ ?_))))
  ·clear h_7
   refine aB (be hl25 (fun (to4 : Int) => ⟨[(0, .str (sB s1)), (1, .int .i64 at1), (4, .ptr 0 0), (8, .int .i64 to4)], [(0, 0, .int .i64 0), (0, 1, .int .i64 0), (0, 2, .int .i64 0), (0, 3, .str (sB []))], [], 1⟩) [0] rfl zs ?_)
   intro to4 o28 ho26 hE27
   refine ch (aS (aS (bx ho26 fun o29 ho30 ho26_1 => aq (fun x => x = o29) (fun (x7 : Bool) => ⟨[(0, .str (sB s1)), (1, .int .i64 at1), (4, .ptr 0 0), (8, .int .i64 to4), (122, .bool x7)], [(0, 0, .int .i64 0), (0, 1, .int .i64 0), (0, 2, .int .i64 0), (0, 3, .str (sB []))], [], 1⟩) ?_ ?_)))
   ·clear ho26
    refine aR (rg 5 rfl (dN Z Z Z Z Z ho30 (fun ho30_1 => ?_) fun ho30_1 => ?_))
    ·clear ho30
     refine rg 2 rfl (gy Z Z Z (bx ho30_1 fun c4 hx31 ho30_2 => rV rfl (dw Z Z Z Z hx31) (rg 3 rfl (dN Z Z Z Z Z ho30_2 (fun ho30_3 => ?_) fun ho30_3 => ?_))))
     ·clear ho30_1 ho30_2
      refine rg 2 rfl (gy Z Z Z (bx ho30_3 fun c5 hx32 ho30_4 => rV rfl (dw Z Z Z Z hx32) (rg 3 rfl (dN Z Z Z Z Z ho30_4 (fun ho30_5 => ?_) fun ho30_5 => ?_))))
      ·clear ho30_3 ho30_4
       exact rg 2 rfl (gy Z Z Z (bx ho30_5 fun c6 hx33 ho30_6 => rV rfl (dw Z Z Z Z hx33) (rg 2 rfl (rn (si ho30_6 ▸ cN [0])))))
      clear ho30_3 ho30_4
      exact rg 4 rfl (rn (si ho30_5 ▸ cN [0]))
     clear ho30_1 ho30_2
     exact rg 10 rfl (rn (si ho30_3 ▸ cN [0]))
    clear ho30
    exact rg 16 rfl (rn (si ho30_1 ▸ cN [0]))
   clear ho26
   rintro x7 rfl
   refine ch (bw rfl ho26_1 (fun ho26_2 => ?_) fun ho26_2 => ?_)
   ·clear ho26_1
    exact aK (aB (aR (rg 3 rfl (rn (ah (si ho26_2 ▸ lN [0]))))))
   clear ho26_1
   refine aW (xX ?_)
   cases ho26_2
   have hq := hE27 _ rfl
   subst hq
   exact cN [0]
  clear h_7
  rintro to6 rfl
  refine ch (aS (aS (bx h_8 fun o34 ho35 h_9 => aq (fun x => x = o34) (fun (x8 : Bool) => ⟨[(0, .str (sB s1)), (1, .int .i64 at1), (4, .ptr 0 0), (8, .int .i64 to6), (135, .bool x8)], [(0, 0, .int .i64 0), (0, 1, .int .i64 0), (0, 2, .int .i64 0), (0, 3, .str (sB []))], [], 1⟩) ?_ ?_)))
  ·clear h_8
   refine aR (rg 5 rfl (eN Z Z Z Z Z ho35 (fun ho35_1 => ?_) fun ho35_1 => ?_))
   ·clear ho35
    exact rg 6 rfl (rn (si ho35_1 ▸ cN [0]))
   clear ho35
   exact rg 5 rfl (rn (si ho35_1 ▸ cN [0]))
  clear h_8
  rintro x8 rfl
  refine ch (bw rfl h_9 (fun h_10 => ?_) fun h_10 => ?_)
  ·clear h_9
   exact ag (rg 2 rfl (rs Z Z Z Z Z Z Z (rg 2 rfl (rn (aT (si h_10 ▸ rF))))))
  clear h_9
  refine aK (aS (Eu 15 [] Tryz.mix (xv [] Z Z (fun _ => rfl) (xv [] Z Z (fun _ => rfl) (xv [] Z Z (fun _ => rfl) (xv [] Z Z (fun _ => rfl) (xv [] Z Z (fun _ => rfl) (bx h_10 fun s4 hx38 h_11 => xV [] Z Z (fun _ => gR Z Z Z ⟨_, rfl⟩ ⟨_, rfl⟩ hx38) (xv [] Z Z (fun _ => rfl) (xv [] Z Z (fun _ => rfl) (xv [] Z Z (fun _ => rfl) (xv [] Z Z (fun _ => rfl) (xv [] Z Z (fun _ => rfl) (bx h_11 fun c8 hx39 h_12 => xV [] Z Z (fun _ => dw Z Z Z Z hx39) (xv [] Z Z (fun _ => rfl) ?_)))))))))))))))
  refine xE [0] .any 1 _ _ Z Z (by
      refine rs Z Z Z Z Z Z Z ?_
      exact rn ⟨rfl, rfl⟩) (by rfl) (by rfl) (by rfl) ?_
  refine xv [] Z Z (fun _ => rfl) (xn (by kernel_rfl) (rv Z Z ?_))
  obtain ⟨x9, hx40, h_13⟩ := bs h_12
  exact rt (xh hx40) (rn (aT (si h_13 ▸ rF)))
 clear h_6
 refine aK (ag (rv Z Z (rn (aS (ag (rg 5 rfl (rn (bx h_7 fun o41 ho42 h_8 => aq (fun x => x = o41) (fun (two1 : aY) => ⟨[(0, .str (sB s1)), (1, .int .i64 at1), (4, .ptr 0 0), (15, .str (sB two1))], [(0, 0, .int .i64 0), (0, 1, .int .i64 0), (0, 2, .int .i64 0), (0, 3, .str (sB []))], [], 1⟩) ?_ ?_))))))))
 ·clear h_7
  refine bw rfl ho42 (fun ho42_1 => ?_) fun ho42_1 => ?_
  ·clear ho42
   exact aR (rg 4 rfl (bx ho42_1 fun s5 hx43 ho42_2 => rV rfl (gR Z Z Z ⟨_, rfl⟩ ⟨_, rfl⟩ hx43) (rv Z Z (rn (si ho42_2 ▸ cN [0])))))
  clear ho42
  exact aK (si ho42_1 ▸ cN [0])
 clear h_7
 rintro two1 rfl
 refine ch (aS (aS (bx h_8 fun o44 ho45 h_9 => aq (fun x => x = o44) (fun (x10 : Bool) => ⟨[(0, .str (sB s1)), (1, .int .i64 at1), (4, .ptr 0 0), (15, .str (sB two1)), (174, .bool x10)], [(0, 0, .int .i64 0), (0, 1, .int .i64 0), (0, 2, .int .i64 0), (0, 3, .str (sB []))], [], 1⟩) ?_ ?_)))
 ·clear h_8
  refine aR (rg 2 rfl (rt (jH two1 [60, 61]) (rv Z Z (eN Z Z Z Z Z ho45 (fun ho45_1 => ?_) fun ho45_1 => ?_))))
  ·clear ho45
   refine rg 2 rfl (rt (jH two1 [33, 61]) (rg 2 rfl (eN Z Z Z Z Z ho45_1 (fun ho45_2 => ?_) fun ho45_2 => ?_)))
   ·clear ho45_1
    refine rg 2 rfl (rt (jH two1 [62, 61]) (rg 2 rfl (eN Z Z Z Z Z ho45_2 (fun ho45_3 => ?_) fun ho45_3 => ?_)))
    ·clear ho45_2
     exact rg 2 rfl (rt (jH two1 [94, 61]) (rv Z Z (rn (si ho45_3 ▸ cN [0]))))
    clear ho45_2
    exact rg 2 rfl (rn (si ho45_3 ▸ cN [0]))
   clear ho45_1
   exact rg 6 rfl (rn (si ho45_2 ▸ cN [0]))
  clear ho45
  exact rg 10 rfl (rn (si ho45_1 ▸ cN [0]))
 clear h_8
 rintro x10 rfl
 refine ch (bw rfl h_9 (fun h_10 => ?_) fun h_10 => ?_)
 ·clear h_9
  exact ag (rg 5 rfl (rs Z Z Z Z Z Z Z (rg 2 rfl (rn (aT (si h_10 ▸ rF))))))
 clear h_9
 refine aK (ag (rg 4 rfl (bx h_10 fun s6 hx46 h_11 => rV rfl (gR Z Z Z ⟨_, rfl⟩ ⟨_, rfl⟩ hx46) (rv Z Z (rn (ag (rg 7 rfl (rt (jH s6 [40]) (rv Z Z (eN Z Z Z Z Z h_11 (fun h_12 => ?_) fun h_12 => ?_))))))))))
 ·clear h_10 h_11
  refine rg 2 rfl (rt (jH s6 [41]) (rg 2 rfl (eN Z Z Z Z Z h_12 (fun h_13 => ?_) fun h_13 => ?_)))
  ·clear h_12
   refine rg 2 rfl (rt (jH s6 [44]) (rg 2 rfl (eN Z Z Z Z Z h_13 (fun h_14 => ?_) fun h_14 => ?_)))
   ·clear h_13
    refine rg 2 rfl (rt (jH s6 [60]) (rg 2 rfl (eN Z Z Z Z Z h_14 (fun h_15 => ?_) fun h_15 => ?_)))
    ·clear h_14
     refine rg 2 rfl (rt (jH s6 [61]) (rg 2 rfl (eN Z Z Z Z Z h_15 (fun h_16 => ?_) fun h_16 => ?_)))
     ·clear h_15
      exact rg 2 rfl (rt (jH s6 [62]) (rv Z Z (rs Z Z Z Z Z Z Z (rg 2 rfl (rn (aT (si h_16 ▸ rF)))))))
     clear h_15
     exact rg 2 rfl (rs Z Z Z Z Z Z Z (rg 2 rfl (rn (aT (si h_16 ▸ rF)))))
    clear h_14
    exact rg 6 rfl (rs Z Z Z Z Z Z Z (rg 2 rfl (rn (aT (si h_15 ▸ rF)))))
   clear h_13
   exact rg 10 rfl (rs Z Z Z Z Z Z Z (rg 2 rfl (rn (aT (si h_14 ▸ rF)))))
  clear h_12
  exact rg 14 rfl (rs Z Z Z Z Z Z Z (rg 2 rfl (rn (aT (si h_13 ▸ rF)))))
 clear h_10 h_11
 exact rg 18 rfl (rs Z Z Z Z Z Z Z (rg 2 rfl (rn (aT (si h_12 ▸ rF)))))
def kh (fu : Nat) (s1 : aY) : Option ((List aE) × Int) :=
 bif (decide ((s1.length : Int) > 500)) then some ([], 5) else ((bm (ε := Int × (List aE)) (τ := (List aE) ⊕ ((List aE) × Int)) (fun (((at1, out1)) : Int × (List aE)) => (bif (decide (at1 < (s1.length : Int))) then ((gi s1 at1).bind fun c1 => bif ((c1.toNat : Int) == 32) then some (Sum.inl (W (at1 + 1), out1)) else ((gh fu s1 at1).bind fun to1 => bif (!to1.2.2) then some (Sum.inr (Sum.inr ([], 2))) else ((ap out1 [to1.1]).bind fun out4 => some (Sum.inl (to1.2.1, out4))))) else some (Sum.inr (Sum.inl out1)))) fu (0, [])).bind fun o => kS o fun (out3 : List aE) => some (out3, 0))
theorem w5 {fu : Nat} {s1 : aY} {r : (List aE) × Int} (h : kh fu s1 = some r) : ai Tryz.prog 93 [.str (sB s1)] (· = .tup [.sl (r.1.map aJ), .int .i64 r.2]) := by
 rw [kh] at h
 refine cf Tryz.func93 ?_
 refine ag (rg 2 rfl (rn (aS (ag (rg 3 rfl (rn (bw rfl h (fun h_1 => ?_) fun h_1 => ?_)))))))
 ·clear h
  exact ag (rg 2 rfl (rn (aT (si h_1 ▸ rF))))
 clear h
 refine aK (ag (rv Z Z (rn (ag (rv Z Z (rn (aS (aQ (fun _ _ _ _ _ hi => nH false 4 4 rfl hi) (bx h_1 fun e1 hl2 h_2 => aq (fun x => Sum.inl x = e1) (fun (out3 : List aE) => ⟨[(4, .own 0)], [], [(0, .row 4 (out3.map aJ))], 1⟩) ?_ ?_)))))))))
 ·clear h_1
  refine aB (be hl2 (fun (((at1, out1)) : Int × (List aE)) => ⟨[(0, .str (sB s1)), (4, .own 0), (5, .int .i64 at1)], [], [(0, .row 4 (out1.map aJ))], 1⟩) [0] rfl zs ?_)
  intro v o5 ho3 hE4
  obtain ⟨at1, out1⟩ := v
  refine ch (aS (ag (rg 4 rfl (rn (bw rfl ho3 (fun ho3_1 => ?_) fun ho3_1 => ?_)))))
  ·clear ho3
   refine aK (aB (aS (ag (rg 2 rfl (bx ho3_1 fun c1 hx6 ho3_2 => rV rfl (dw Z Z Z Z hx6) (rv Z Z (rn (bw rfl ho3_2 (fun ho3_3 => ?_) fun ho3_3 => ?_))))))))
   ·clear ho3_1 ho3_2
    refine ag (rg 3 rfl (rn (aW (xX ?_))))
    exact si ho3_3 ▸ lN [0]
   clear ho3_1 ho3_2
   refine aK (ag (rg 2 rfl (bx ho3_3 fun to1 hx7 ho3_4 => bt Z Z Z (pY hx7) (rg 4 rfl (ra Z Z Z (rs Z Z Z Z Z Z Z (rg 2 rfl (rn (aS (ag (rg 2 rfl (rn (bw rfl ho3_4 (fun ho3_5 => ?_) fun ho3_5 => ?_)))))))))))))
   ·clear ho3_3 ho3_4
    refine ag (rg 2 rfl (rn (aT ?_)))
    cases ho3_5
    have hq := hE4 _ rfl
    subst hq
    have h_3 := n8 h_2
    subst h_3
    exact rF
   clear ho3_3 ho3_4
   refine aK (ag (rg 2 rfl (mz false Z Z Z Z Z Z Z Z Z Z (bx ho3_5 fun out4 hx8 ho3_6 => pu false (z := 4) (xs := out1.map aJ) (ys := [to1.1].map aJ) Z Z Z Z Z Z Z (.own Z Z) (.sl Z Z Z) (wM (fun _ => by rfl) _) (oM (fun _ => by rfl) _) (wA aJ rfl hx8) rfl ?_))))
   exact rk (congrArg (Kind.row _) (wR aJ hx8)) (rv Z Z (rn (aR (rg 2 rfl (rn (ah (si ho3_6 ▸ lN [3])))))))
  clear ho3
  refine aW (xX ?_)
  cases ho3_1
  have hq := hE4 _ rfl
  subst hq
  exact cN [0]
 clear h_1
 rintro out3 rfl
 have h_3 := ry h_2
 exact ag (rg 3 rfl (rn (aT (si h_3 ▸ rF))))
def kE (fu : Nat) (err1 : Er) : Option Int :=
 bif err1.isNone then some 0 else ((bm (ε := Int) (τ := Unit ⊕ Int) (fun (n1 : Int) => (bif (decide (n1 ≤ 12)) then (bif (err1 == some n1) then some (Sum.inr (Sum.inr n1)) else some (Sum.inl (W (n1 + 1)))) else some (Sum.inr (Sum.inl ())))) fu 1).bind fun o => kS o fun (_ : Unit) => some (-1))
theorem ut {fu : Nat} {err1 : Er} {r : Int} (h : kE fu err1 = some r) : ai Tryz.prog 22 [.err 55 err1] (· = .int .i64 r) := by
 rw [kE] at h
 refine cf Tryz.func22 ?_
 refine ag (rv Z Z (rn (aS (ag (rv Z Z (rV rfl (nN Z Z Z) (rn (bw rfl h (fun h_1 => ?_) fun h_1 => ?_))))))))
 ·clear h
  exact ag (rv Z Z (rn (aT (si h_1 ▸ rF))))
 clear h
 refine aK (aS (ag (rv Z Z (rn (bx h_1 fun e1 hl2 h_2 => aq (fun x => Sum.inl x = e1) (fun (_ : Unit) => ⟨[], [], [], 0⟩) ?_ ?_)))))
 ·clear h_1
  refine aB (be hl2 (fun (n1 : Int) => ⟨[(0, .err 55 err1), (3, .int .i64 n1)], [], [], 0⟩) [] rfl zs ?_)
  intro n1 o5 ho3 hE4
  refine ch (aS (ag (rg 2 rfl (rn (bw rfl ho3 (fun ho3_1 => ?_) fun ho3_1 => ?_)))))
  ·clear ho3
   refine aK (aS (aB (ag (rg 3 rfl (rV rfl (wH Z Z Z Z Z Z (fun _ => rfl)) (rn (bw rfl ho3_1 (fun ho3_2 => ?_) fun ho3_2 => ?_)))))))
   ·clear ho3_1
    refine ag (rg 2 rfl (rn (aT ?_)))
    cases ho3_2
    have hq := hE4 _ rfl
    subst hq
    have h_3 := n8 h_2
    subst h_3
    exact rF
   clear ho3_1
   exact aK (ah (aR (rg 3 rfl (rn (si ho3_2 ▸ lN [])))))
  clear ho3
  refine aW (xX ?_)
  cases ho3_1
  have hq := hE4 _ rfl
  subst hq
  exact cN []
 clear h_1
 rintro _ rfl
 have h_3 := ry h_2
 exact ag (rv Z Z (rn (aT (si h_3 ▸ rF))))
end
end Go.Proofs.YtbkomicjhfldmaaGreatDoor
