/- The texts of a proof, put together by a program of this session's. -/
import Derived.Shelf.SlIterI.Nil
import Derived.Shelf.SortM.Plain
import Derived.Shelf.SortM.SortNone
import Derived.Ground.GgzProg
import Derived.Ground.SlgmProg
import Derived.Test.YtbkomicjhfldmaaGreatDoorM8
namespace Go.Proofs.YtbkomicjhfldmaaGreatDoor
open Go.Pv Go Go.Maps Go.Sort Go.Shelf Go.WideElems
open Go.RowKit (Below)
set_option linter.unusedSimpArgs false
set_option linter.unusedVariables false
set_option maxRecDepth 100000
set_option maxHeartbeats 4000000
def Tryz.keysA_ren : Go.Shelf.Ren := ⟨fun | 7 => 48 | 10 => 85 | n => n, fun | 23 => 95 | 26 => 3 | 3 => 105 | 28 => 112 | 0 => 0 | 27 => 111 | 33 => 54 | 4 => 4 | n => n, fun | n => n⟩
theorem Tryz.keysA : Go.Proofs.SlLaysZI.n7 Tryz.prog Tryz.keysA_ren where
  mixed := by kernel_rfl
  f7 := ⟨"maps.Keys[map[int]plover/table.sub,int,plover/table.sub]", by decide, Tryz.func48.trans (congrArg some (by kernel_rfl))⟩
  f10 := ⟨"maps.Keys[map[int]plover/table.sub,int,plover/table.sub]$1", by decide, Tryz.func85.trans (congrArg some (by kernel_rfl))⟩
  t0 := Tryz.underlying0
  a0 := Tryz.isAgg0
  z0 := Tryz.sizeOf0
  v0 := Tryz.zeroValue0
  t4 := Tryz.underlying4
  a4 := Tryz.isAgg4
  z4 := Tryz.sizeOf4
  v4 := Tryz.zeroValue4
  t23 := Tryz.underlying95
  a23 := Tryz.isAgg95
  z23 := Tryz.sizeOf95
  v23 := Tryz.zeroValue95
  t26 := Tryz.underlying3
  a26 := Tryz.isAgg3
  z26 := Tryz.sizeOf3
  v26 := Tryz.zeroValue3
  t27 := Tryz.underlying111
  a27 := Tryz.isAgg111
  z27 := Tryz.sizeOf111
  v27 := Tryz.zeroValue111
  t28 := Tryz.underlying112
  a28 := Tryz.isAgg112
  z28 := Tryz.sizeOf112
  v28 := Tryz.zeroValue112
  t33 := Tryz.underlying54
  a33 := Tryz.isAgg54
  z33 := Tryz.sizeOf54
  v33 := Tryz.zeroValue54
def Tryz.sortedA_ren : Go.Shelf.Ren := ⟨fun | 6 => 47 | 8 => 83 | 9 => 84 | 11 => 132 | 13 => 134 | 12 => 133 | 23 => 197 | 24 => 198 | 14 => 188 | 15 => 189 | 16 => 190 | 17 => 191 | 18 => 192 | 19 => 193 | 20 => 194 | 21 => 195 | 22 => 196 | 25 => 229 | 26 => 230 | 27 => 231 | 28 => 232 | 29 => 233 | 30 => 218 | 31 => 256 | n => n, fun | 26 => 3 | 28 => 112 | 24 => 57 | 0 => 0 | 3 => 3 | 37 => 214 | 48 => 49 | 50 => 265 | 4 => 4 | 40 => 257 | 39 => 256 | 45 => 139 | 5 => 5 | 9 => 9 | 51 => 283 | 55 => 287 | 57 => 301 | 58 => 208 | 33 => 54 | n => n, fun | n => n⟩
theorem Tryz.sortedA : Go.Proofs.SlLaysZI.n6 Tryz.prog Tryz.sortedA_ren where
  mixed := by kernel_rfl
  f6 := ⟨"slices.Sorted[int]", by decide, Tryz.func47.trans (congrArg some (by kernel_rfl))⟩
  f8 := ⟨"slices.Collect[int]", by decide, Tryz.func83.trans (congrArg some (by kernel_rfl))⟩
  f11 := ⟨"slices.AppendSeq[[]int,int]", by decide, Tryz.func132.trans (congrArg some (by kernel_rfl))⟩
  t0 := Tryz.underlying0
  a0 := Tryz.isAgg0
  z0 := Tryz.sizeOf0
  v0 := Tryz.zeroValue0
  t24 := Tryz.underlying57
  a24 := Tryz.isAgg57
  z24 := Tryz.sizeOf57
  v24 := Tryz.zeroValue57
  t26 := Tryz.underlying3
  a26 := Tryz.isAgg3
  z26 := Tryz.sizeOf3
  v26 := Tryz.zeroValue3
  t28 := Tryz.underlying112
  a28 := Tryz.isAgg112
  z28 := Tryz.sizeOf112
  v28 := Tryz.zeroValue112
  i26 := by kernel_rfl
def Tryz.sortA_ren : Go.Shelf.Ren := ⟨fun | 5 => 84 | 8 => 134 | 7 => 133 | 19 => 197 | 20 => 198 | 10 => 188 | 11 => 189 | 12 => 190 | 13 => 191 | 14 => 192 | 15 => 193 | 16 => 194 | 17 => 195 | 18 => 196 | 30 => 229 | 31 => 230 | 32 => 231 | 33 => 232 | 34 => 233 | 35 => 218 | 40 => 256 | n => n, fun | 23 => 57 | 25 => 3 | 3 => 3 | 32 => 214 | 22 => 57 | 0 => 0 | 44 => 49 | 46 => 265 | 4 => 4 | 36 => 257 | 35 => 256 | 41 => 139 | 5 => 5 | 9 => 9 | 53 => 283 | 57 => 287 | 63 => 301 | 64 => 208 | n => n, fun | n => n⟩
theorem Tryz.sortA : Go.Proofs.SlLaysM.n5 Tryz.prog Tryz.sortA_ren where
  mixed := by kernel_rfl
  f5 := ⟨"slices.Sort[[]int,int]", by decide, Tryz.func84.trans (congrArg some (by kernel_rfl))⟩
  f7 := ⟨"slices.pdqsortOrdered[int]", by decide, Tryz.func133.trans (congrArg some (by kernel_rfl))⟩
  f8 := Tryz.func134.trans (congrArg some (by kernel_rfl))
  f10 := ⟨"slices.insertionSortOrdered[int]", by decide, Tryz.func188.trans (congrArg some (by kernel_rfl))⟩
  f11 := ⟨"slices.heapSortOrdered[int]", by decide, Tryz.func189.trans (congrArg some (by kernel_rfl))⟩
  f12 := ⟨"slices.breakPatternsOrdered[int]", by decide, Tryz.func190.trans (congrArg some (by kernel_rfl))⟩
  f13 := ⟨"slices.choosePivotOrdered[int]", by decide, Tryz.func191.trans (congrArg some (by kernel_rfl))⟩
  f14 := ⟨"slices.reverseRangeOrdered[int]", by decide, Tryz.func192.trans (congrArg some (by kernel_rfl))⟩
  f15 := ⟨"slices.partialInsertionSortOrdered[int]", by decide, Tryz.func193.trans (congrArg some (by kernel_rfl))⟩
  f16 := ⟨"cmp.Less[int]", by decide, Tryz.func194.trans (congrArg some (by kernel_rfl))⟩
  f17 := ⟨"slices.partitionEqualOrdered[int]", by decide, Tryz.func195.trans (congrArg some (by kernel_rfl))⟩
  f18 := ⟨"slices.partitionOrdered[int]", by decide, Tryz.func196.trans (congrArg some (by kernel_rfl))⟩
  f19 := Tryz.func197.trans (congrArg some (by kernel_rfl))
  f20 := Tryz.func198.trans (congrArg some (by kernel_rfl))
  f30 := ⟨"slices.siftDownOrdered[int]", by decide, Tryz.func229.trans (congrArg some (by kernel_rfl))⟩
  f31 := Tryz.func230.trans (congrArg some (by kernel_rfl))
  f32 := Tryz.func231.trans (congrArg some (by kernel_rfl))
  f33 := ⟨"slices.medianAdjacentOrdered[int]", by decide, Tryz.func232.trans (congrArg some (by kernel_rfl))⟩
  f34 := ⟨"slices.medianOrdered[int]", by decide, Tryz.func233.trans (congrArg some (by kernel_rfl))⟩
  f35 := ⟨"cmp.isNaN[int]", by decide, Tryz.func218.trans (congrArg some (by kernel_rfl))⟩
  f40 := ⟨"slices.order2Ordered[int]", by decide, Tryz.func256.trans (congrArg some (by kernel_rfl))⟩
  t0 := Tryz.underlying0
  a0 := Tryz.isAgg0
  z0 := Tryz.sizeOf0
  v0 := Tryz.zeroValue0
  t3 := Tryz.underlying3
  a3 := Tryz.isAgg3
  z3 := Tryz.sizeOf3
  v3 := Tryz.zeroValue3
  t4 := Tryz.underlying4
  a4 := Tryz.isAgg4
  z4 := Tryz.sizeOf4
  v4 := Tryz.zeroValue4
  t5 := Tryz.underlying5
  a5 := Tryz.isAgg5
  z5 := Tryz.sizeOf5
  v5 := Tryz.zeroValue5
  t9 := Tryz.underlying9
  a9 := Tryz.isAgg9
  z9 := Tryz.sizeOf9
  v9 := Tryz.zeroValue9
  t22 := Tryz.underlying57
  a22 := Tryz.isAgg57
  z22 := Tryz.sizeOf57
  v22 := Tryz.zeroValue57
  t23 := Tryz.underlying57
  a23 := Tryz.isAgg57
  z23 := Tryz.sizeOf57
  v23 := Tryz.zeroValue57
  t25 := Tryz.underlying3
  a25 := Tryz.isAgg3
  z25 := Tryz.sizeOf3
  v25 := Tryz.zeroValue3
  t32 := Tryz.underlying214
  a32 := Tryz.isAgg214
  z32 := Tryz.sizeOf214
  v32 := Tryz.zeroValue214
  t35 := Tryz.underlying256
  a35 := Tryz.isAgg256
  z35 := Tryz.sizeOf256
  v35 := Tryz.zeroValue256
  t36 := Tryz.underlying257
  a36 := Tryz.isAgg257
  z36 := Tryz.sizeOf257
  v36 := Tryz.zeroValue257
  t41 := Tryz.underlying139
  a41 := Tryz.isAgg139
  z41 := Tryz.sizeOf139
  v41 := Tryz.zeroValue139
  t44 := Tryz.underlying49
  a44 := Tryz.isAgg49
  z44 := Tryz.sizeOf49
  v44 := Tryz.zeroValue49
  t46 := Tryz.underlying265
  a46 := Tryz.isAgg265
  z46 := Tryz.sizeOf265
  v46 := Tryz.zeroValue265
  t53 := Tryz.underlying283
  a53 := Tryz.isAgg283
  z53 := Tryz.sizeOf283
  v53 := Tryz.zeroValue283
  t57 := Tryz.underlying287
  a57 := Tryz.isAgg287
  z57 := Tryz.sizeOf287
  v57 := Tryz.zeroValue287
  t63 := Tryz.underlying301
  a63 := Tryz.isAgg301
  z63 := Tryz.sizeOf301
  v63 := Tryz.zeroValue301
  t64 := Tryz.underlying208
  a64 := Tryz.isAgg208
  z64 := Tryz.sizeOf208
  v64 := Tryz.zeroValue208
theorem Tryz.sortsA (m : Nat) : AnyZI.SortsIn Tryz.prog Tryz.sortedA_ren Fence.wide m :=
  ⟨fun blk off cap ss W hH hblk hsz => callsIn_wide.2 (AnyM.slices_Sort_int Tryz.sortA blk off cap ss W hH hblk hsz),
   fun p cap W => callsIn_wide.2 (AnyM.slices_Sort_int_none Tryz.sortA p cap W)⟩
theorem ownsMap_int {P : Program} {k : TypeId} (hk : P.underlying k = some (.int .i64)) {w : World} {b : Nat} {es : Array MapEntry} {clock : Nat} {zs : List Int} (h : w.heap[b]? = some (.map es clock)) (hs : Go.MapKept.Stamped es clock)
    (hz : es.toList.map (·.key) = zs.map (Value.int .i64)) (hw : ∀ z ∈ zs, (Lit.int .i64 z).wf = true) (hn : zs.length ≤ maxLen) :
    ∃ D0 : DataW Unit, w.ownsMap P k (fun _ => some (.nil, [])) b zs.length D0 ∧ (intKeys D0).Perm zs ∧ Go.Maps.size D0 = zs.length := by
  have hlen : es.size = zs.length := by have := congrArg List.length hz; simpa using this
  have hread : ∀ x ∈ es.toList, ∃ z ∈ zs, x.key = .int .i64 z ∧ WideElems.rd (H := Unit) P k (fun _ => some (.nil, [])) x = some (.int .i64 z, .nil) := fun x hx => by
    have : x.key ∈ zs.map (Value.int .i64) := by rw [← hz]; exact List.mem_map_of_mem hx
    obtain ⟨z, hz', e⟩ := List.mem_map.1 this
    refine ⟨z, hz', e.symm, ?_⟩
    unfold WideElems.rd
    rw [← e, keyOf_int_mk hk (hw z hz')]; rfl
  refine ⟨_, ⟨es, clock, h, ⟨by omega, hs, fun x hx => by obtain ⟨z, _, _, e⟩ := hread x hx; exact ⟨_, e⟩⟩, by omega, rfl⟩, ?_, ?_⟩
  · show (((es.toList.map (rg (H := Unit) P k fun _ => some (.nil, []))).foldr DataW.insert []).map fun p => Go.intOf p.1).Perm zs
    refine ((WideShapes.sorted_perm _).map _).trans ?_
    rw [List.map_map]
    have : es.toList.map ((fun p : Lit × DataW Unit => Go.intOf p.1) ∘ rg P k fun _ => some (.nil, [])) = zs := by
      have h2 : es.toList.map ((fun p : Lit × DataW Unit => Go.intOf p.1) ∘ rg P k fun _ => some (.nil, [])) = (es.toList.map (·.key)).map fun v => match v with | .int _ z => z | _ => 0 := by
        rw [List.map_map]
        refine List.map_congr_left fun x hx => ?_
        obtain ⟨z, _, e1, e2⟩ := hread x hx
        simp only [Function.comp_apply, rg_of e2, e1]; rfl
      rw [h2, hz, List.map_map]
      exact (List.map_congr_left fun _ _ => rfl).trans (List.map_id _)
    rw [this]
  · show ((es.toList.map (rg (H := Unit) P k fun _ => some (.nil, []))).foldr DataW.insert []).length = _
    rw [length_sorted, List.length_map, Array.length_toList, hlen]
theorem keysSorted : KeysSorted Tryz.prog 48 47 := by
  refine ⟨by kernel_rfl, by kernel_rfl, fun w b es clock zs hb hs hk hwf hlen => ?_⟩
  have hml : zs.length ≤ maxLen := by have : (68719476736 : Nat) ≤ maxLen := by decide
                                      omega
  obtain ⟨D0, hown, hperm, hsize⟩ := ownsMap_int (P := Tryz.prog) (k := 3) Tryz.underlying3 hb hs hk hwf hml
  have cK : Calls Tryz.prog 48 #[.map (some b)] w fun e w' => e = .returned (.func (.func 85) #[] #[.pointer (some ⟨w.heap.size, 0, none⟩)]) ∧ w' = w.alloc (.cells #[.map (some b)] 95) :=
    (callsIn_wide (n := 5)).1 (AnyZI.keys_in Tryz.keysA Fence.wide 5 trivial rfl (some b) w)
  refine cK.mono ?_
  rintro e w1 ⟨rfl, rfl⟩
  refine ⟨_, rfl, (Below.refl _ w).alloc (Nat.le_refl _) _, ?_⟩
  have hbl := hown.lt
  have hseq : SeqGives Fence.wide 2 Tryz.prog 85 #[.pointer (some ⟨w.heap.size, 0, none⟩)] encZ (fun ss => ss.Perm (intKeys D0)) (Go.Maps.size D0) (w.alloc (.cells #[.map (some b)] 95)) :=
    AnyZI.keys_gives (ρ := Tryz.keysA_ren) { Tryz.keysA with } Fence.wide _ trivial rfl (by omega) w.heap.size b zs.length D0 _ (by simp) (by simp) (by
      obtain ⟨es, clock, hb, Ft, hs, hD⟩ := hown
      exact ⟨es, clock, (Below.heap_alloc _ _ b hbl).trans hb, Ft, hs, hD⟩)
  have cS := AnyZI.sorted_in Tryz.sortedA Fence.wide 5 trivial trivial trivial trivial rfl (by omega) (Tryz.sortsA _) (enters_of Tryz.func84 (by kernel_rfl) rfl) 85 #[.pointer (some ⟨w.heap.size, 0, none⟩)] trivial
    (enters_of Tryz.func85 (by kernel_rfl) rfl) _ _ (by rw [hsize]; exact hml) (by rw [hsize]; omega) _ hseq
  change CallsIn _ _ Tryz.prog 47 _ _ _ at cS
  refine ((callsIn_wide).1 cS).mono ?_
  rintro e w2 ⟨v, ss, rfl, hS, hrow, _, hb2⟩
  exact ⟨v, ss, _, rfl, hS.trans hperm, hrow, hb2⟩
end Go.Proofs.YtbkomicjhfldmaaGreatDoor
namespace Go.Proofs.YtbkomicjhfldmaaGreatDoor
open Go.Pv
set_option maxRecDepth 100000
set_option maxHeartbeats 4000000
set_option linter.unusedSimpArgs false
set_option linter.unusedVariables false
set_option linter.unusedSectionVars false
def dtable_Table_Subs (fu : Nat) (t1 : ttableTable) : Option ((List tSub) × ttableTable) :=
  (ksd t1.L).bind fun x1 => (loopD (ε := Int × (List tSub)) (τ := List tSub) (fun (((x2, out1)) : Int × (List tSub)) => (bif (decide (x2 < (x1.length : Int))) then ((gi x1 x2).bind fun id1 => (mgo t1.L id1 (ttablesub.mk (tSub.mk 0 0 (tRegion.mk (tRect.mk 0 0 0 0) []) [] (tRect.mk 0 0 0 0)) (tFilter.mk 0 [] [] [] []))).bind fun out4 => (dtable_copied fu out4.Sub).bind fun out5 => (ap out1 [out5]).bind fun out6 => some (Sum.inl (W (x2 + 1), out6))) else some (Sum.inr out1))) fu (0, [])).bind fun (out3 : List tSub) => some (out3, t1)
section
attribute [local irreducible] awp aops DP PCall ACall Decidable.decide
theorem dtable_Table_Subs_l {fu : Nat} {t1 : ttableTable} {r : (List tSub) × ttableTable} (h : dtable_Table_Subs fu t1 = some r) : ACall Tryz.prog 11 3 [.ptr 0 0] [(0, 0, .int .i64 t1.Shift), (0, 1, .int .i64 t1.Most), (0, 2, .own 1), (0, 3, .own 2)] [(1, mapK (kInt .i64) (fun x : ttablesub => .agg (c_ttablesub x)) t1.L), (2, mapK (kInt .i64) (fun x : Int => .int .i64 x) t1.Last)] (fun r_ H_ O_ n_ => r_ = .sl (r.1.map c_tSub) ∧ H_ = [(0, 0, .int .i64 r.2.Shift), (0, 1, .int .i64 r.2.Most), (0, 2, .own 3), (0, 3, .own 4)] ∧ O_ = [(3, mapK (kInt .i64) (fun x : ttablesub => .agg (c_ttablesub x)) r.2.L), (4, mapK (kInt .i64) (fun x : Int => .int .i64 x) r.2.Last)] ∧ n_ = 5) := by
 rw [dtable_Table_Subs] at h
 refine aB_ Tryz.func11 ?_
 refine awp_conv (fun _ _ _ _ _ hi => map_again (κ := (kInt .i64)) (c := (fun x : ttablesub => .agg (c_ttablesub x))) 0 2 1 rfl rfl hi) (awp_conv (fun _ _ _ _ _ hi => map_again (κ := (kInt .i64)) (c := (fun x : Int => .int .i64 x)) 0 3 2 rfl rfl hi) (aSR (rv rfl rfl (rn (aSR (rv rfl rfl (rn (aS (aSR (rg 4 rfl (bx h fun x1 hx1 h_1 => rKS rfl rfl rfl rfl rfl keysSorted hx1 (rv rfl rfl (rt ((lM (cI .i64) x1)) (rv rfl rfl (rn (awp_conv (fun _ _ _ _ _ hi => nilS_slot false 12 3 rfl hi) (bx h_1 fun e2 hl3 h_2 => awp_cut1 (fun x => x = e2) (fun (out3 : List tSub) => ⟨[(3, .own 3)], [(0, 0, .int .i64 t1.Shift), (0, 1, .int .i64 t1.Most), (0, 2, .own 4), (0, 3, .own 5)], [(3, .row 12 (out3.map c_tSub)), (4, mapK (kInt .i64) (fun x : ttablesub => .agg (c_ttablesub x)) t1.L), (5, mapK (kInt .i64) (fun x : Int => .int .i64 x) t1.Last)], 6⟩) ?_ ?_)))))))))))))))))
 ·clear h h_1
  refine aB (awp_loopD hl3 (fun (((x2, out1)) : Int × (List tSub)) => ⟨[(0, .ptr 0 0), (3, .own 3), (11, .sl (x1.map (cI .i64))), (12, .int .i64 (x1.length : Int)), (13, .int .i64 x2)], [(0, 0, .int .i64 t1.Shift), (0, 1, .int .i64 t1.Most), (0, 2, .own 4), (0, 3, .own 5)], [(3, .row 12 (out1.map c_tSub)), (4, mapK (kInt .i64) (fun x : ttablesub => .agg (c_ttablesub x)) t1.L), (5, mapK (kInt .i64) (fun x : Int => .int .i64 x) t1.Last)], 6⟩) [0,1,2,5,3,4] rfl zs ?_)
  intro v o6 ho4 hE5
  obtain ⟨x2, out1⟩ := v
  refine ch (aSR (rv rfl rfl (rn (aS (cS2 rfl ho4 (fun ho4_1 => ?_) fun ho4_1 => ?_)))))
  ·clear ho4
   refine aK (aS (aB (aSR (bx ho4_1 fun id1 hx7 ho4_2 => ri rfl rfl rfl rfl rfl rfl (gi0 hx7) (giM (cI .i64) hx7) (wM (fun _ => by rfl) _) ?_))))
   refine rg 2 rfl (rn (aR (rg 6 rfl (bx ho4_2 fun out4 hx8 ho4_3 => rV rfl (va_mgetN (κ := (kInt .i64)) (c := (fun x : ttablesub => .agg (c_ttablesub x))) (b := t1.L) (kk := id1) (z := (ttablesub.mk (tSub.mk 0 0 (tRegion.mk (tRect.mk 0 0 0 0) []) [] (tRect.mk 0 0 0 0)) (tFilter.mk 0 [] [] [] []))) rfl rfl rfl rfl rfl rfl (by first | exact .inl (.inl rfl) | exact .inr ⟨_, _, rfl, rfl, by repeat (first | exact trivial | refine ⟨by first | exact .inl rfl | exact .inr (.inl ⟨rfl, rfl⟩) | exact .inr (.inr ⟨rfl, _, rfl⟩), ?_⟩)⟩) rfl rfl rfl hx8) ?_))))
   refine rv rfl rfl (bx ho4_3 fun out5 hx9 ho4_4 => rc1 rfl rfl rfl (dtable_copied_l hx9) (rbs false rfl rfl rfl rfl rfl rfl rfl rfl rfl rfl (bx ho4_4 fun out6 hx10 ho4_5 => rap false (z := 12) (xs := out1.map c_tSub) (ys := [out5].map c_tSub) rfl rfl rfl rfl rfl rfl rfl (.own rfl rfl) (.sl rfl rfl rfl) (wM (fun _ => by rfl) _) (oM (fun _ => by rfl) _) (apB c_tSub rfl hx10) rfl ?_)))
   exact rk (congrArg (Kind.row _) (apM c_tSub hx10)) (rv rfl rfl (rn (inBlock_normal (aR (rg 2 rfl (rn (si ho4_5 ▸ lN [0,1,2,7,4,5])))))))
  clear ho4
  refine awp_exit (xX ?_)
  cases ho4_1
  have hq := hE5 _ rfl
  subst hq
  exact cN [0,1,2,3,4,5]
 clear h h_1
 rintro out3 rfl
 refine aSR (rg 2 rfl (rn (aT ?_)))
 obtain rfl := si h_2
 refine rW ?_
 exact rA [0,1,2,4,5]
def dtable_Table_Wants (fu : Nat) (t1 : ttableTable) (id1 : Int) (e1 : tEvent) : Option (Bool × ttableTable) :=
  (mgo t1.L id1 (ttablesub.mk (tSub.mk 0 0 (tRegion.mk (tRect.mk 0 0 0 0) []) [] (tRect.mk 0 0 0 0)) (tFilter.mk 0 [] [] [] []))).bind fun is1 => (some ((mg t1.L id1).isSome)).bind fun is2 => bif is2 then ((dregion_In fu is1.Sub.Region e1.At).bind fun x1 => bif x1 then ((deval_Holds fu (tFilter.mk is1.F.Kind is1.F.Name is1.F.Op is1.F.Vals is1.F.L) e1.Attrs).bind fun x2 => some (x2, t1)) else some (false, t1)) else some (false, t1)
theorem dtable_Table_Wants_l {fu : Nat} {t1 : ttableTable} {id1 : Int} {e1 : tEvent} {r : Bool × ttableTable} (h : dtable_Table_Wants fu t1 id1 e1 = some r) : ACall Tryz.prog 25 3 [.ptr 0 0, .int .i64 id1, .agg [.int .i64 e1.Pub, .int .u32 e1.Seq, .int .i64 e1.At.X, .int .i64 e1.At.Y, .sl (e1.Attrs.map c_tAttr)]] [(0, 0, .int .i64 t1.Shift), (0, 1, .int .i64 t1.Most), (0, 2, .own 1), (0, 3, .own 2)] [(1, mapK (kInt .i64) (fun x : ttablesub => .agg (c_ttablesub x)) t1.L), (2, mapK (kInt .i64) (fun x : Int => .int .i64 x) t1.Last)] (fun r_ H_ O_ n_ => r_ = .bool r.1 ∧ H_ = [(0, 0, .int .i64 r.2.Shift), (0, 1, .int .i64 r.2.Most), (0, 2, .own 3), (0, 3, .own 4)] ∧ O_ = [(3, mapK (kInt .i64) (fun x : ttablesub => .agg (c_ttablesub x)) r.2.L), (4, mapK (kInt .i64) (fun x : Int => .int .i64 x) r.2.Last)] ∧ n_ = 5) := by
 rw [dtable_Table_Wants] at h
 refine aB_ Tryz.func25 ?_
 refine awp_conv (fun _ _ _ _ _ hi => map_again (κ := (kInt .i64)) (c := (fun x : ttablesub => .agg (c_ttablesub x))) 0 2 1 rfl rfl hi) (awp_conv (fun _ _ _ _ _ hi => map_again (κ := (kInt .i64)) (c := (fun x : Int => .int .i64 x)) 0 3 2 rfl rfl hi) (aSR (rb rfl rfl (rv rfl rfl (rn (aSR (rg 5 rfl (bx h fun is1 hx1 h_1 => rV rfl (va_mgetokN (κ := (kInt .i64)) (c := (fun x : ttablesub => .agg (c_ttablesub x))) (b := t1.L) (kk := id1) (z := (ttablesub.mk (tSub.mk 0 0 (tRegion.mk (tRect.mk 0 0 0 0) []) [] (tRect.mk 0 0 0 0)) (tFilter.mk 0 [] [] [] []))) rfl rfl rfl rfl rfl rfl (by first | exact .inl (.inl rfl) | exact .inr ⟨_, _, rfl, rfl, by repeat (first | exact trivial | refine ⟨by first | exact .inl rfl | exact .inr (.inl ⟨rfl, rfl⟩) | exact .inr (.inr ⟨rfl, _, rfl⟩), ?_⟩)⟩) rfl rfl rfl hx1) ?_))))))))
 refine rg 3 rfl (ra rfl rfl rfl (rs rfl rfl rfl rfl rfl rfl rfl (rv rfl rfl ?_)))
 obtain ⟨is2, hx2, h_2⟩ := bs h_1
 refine rt (eb' hx2) (rn (aSR (rg 2 rfl (gT2 rfl rfl rfl rfl rfl h_2 (fun h_3 => ?_) fun h_3 => ?_))))
 ·clear h h_1 h_2
  refine rg 5 rfl (gy rfl rfl rfl (bx h_3 fun x1 hx3 h_4 => rc1 rfl rfl rfl (dregion_In_l hx3) (rg 2 rfl (gT2 rfl rfl rfl rfl rfl h_4 (fun h_5 => ?_) fun h_5 => ?_))))
  ·clear h_3 h_4
   refine rg 4 rfl (gy rfl rfl rfl (bx h_5 fun x2 hx4 h_6 => rc1 rfl rfl rfl (deval_Holds_l hx4) (rg 2 rfl (rn (aT ?_)))))
   obtain rfl := si h_6
   refine rW ?_
   exact rA [0,1,2,3,4]
  clear h_3 h_4
  refine rg 6 rfl (rn (aT ?_))
  obtain rfl := si h_5
  refine rW ?_
  exact rA [0,1,2,3,4]
 clear h h_1 h_2
 refine rg 14 rfl (rn (aT ?_))
 obtain rfl := si h_3
 refine rW ?_
 exact rA [0,1,2,3,4]
def dtable_Table_Move (fu : Nat) (t1 : ttableTable) (id1 : Int) (d1 : tPoint) : Option (tSub × Bool × Er × ttableTable) :=
  (mgo t1.L id1 (ttablesub.mk (tSub.mk 0 0 (tRegion.mk (tRect.mk 0 0 0 0) []) [] (tRect.mk 0 0 0 0)) (tFilter.mk 0 [] [] [] []))).bind fun is1 => (some ((mg t1.L id1).isSome)).bind fun is2 => bif (!is2) then some ((tSub.mk 0 0 (tRegion.mk (tRect.mk 0 0 0 0) []) [] (tRect.mk 0 0 0 0)), false, (some 9), t1) else ((dregion_Move fu is1.Sub.Region d1).bind fun err1 => bif err1.2.isSome then some ((tSub.mk 0 0 (tRegion.mk (tRect.mk 0 0 0 0) []) [] (tRect.mk 0 0 0 0)), false, err1.2, t1) else ((dzone_Safe fu is1.Sub.Region is1.Sub.Cover d1).bind fun safe1 => (bif (!safe1) then some (decide (is1.Sub.Version > 2147483645)) else some false : Option Bool).bind fun (x1 : Bool) => (bif x1 then some ((tSub.mk 0 0 (tRegion.mk (tRect.mk 0 0 0 0) []) [] (tRect.mk 0 0 0 0)), false, (some 8), t1) else ((bif (!safe1) then ((dzone_Cover fu t1.Shift err1.1).bind fun err3 => bif err3.2.isSome then some (Sum.inr ((tSub.mk 0 0 (tRegion.mk (tRect.mk 0 0 0 0) []) [] (tRect.mk 0 0 0 0)), false, err3.2, t1)) else ((mpo t1.Last id1 (W (is1.Sub.Version + 1))).bind fun m1 => some (Sum.inl (W (is1.Sub.Version + 1), err3.1.X1, err3.1.Y1, err3.1.X2, err3.1.Y2, m1)))) else some (Sum.inl (is1.Sub.Version, is1.Sub.Cover.X1, is1.Sub.Cover.Y1, is1.Sub.Cover.X2, is1.Sub.Cover.Y2, t1.Last)) : Option ((Int × Int × Int × Int × Int × (List (Int × Int))) ⊕ (tSub × Bool × Er × ttableTable))).bind fun o => kS o fun (((s1, s2, s3, s4, s5, l1)) : Int × Int × Int × Int × Int × (List (Int × Int))) => ((mpo t1.L id1 (ttablesub.mk (tSub.mk is1.Sub.Id s1 err1.1 is1.Sub.Filter (tRect.mk s2 s3 s4 s5)) (tFilter.mk is1.F.Kind is1.F.Name is1.F.Op is1.F.Vals is1.F.L))).bind fun m2 => (dtable_copied fu (tSub.mk is1.Sub.Id s1 err1.1 is1.Sub.Filter (tRect.mk s2 s3 s4 s5))).bind fun x2 => some (x2, safe1, none, (ttableTable.mk t1.Shift t1.Most m2 l1)))))))
theorem dtable_Table_Move_l {fu : Nat} {t1 : ttableTable} {id1 : Int} {d1 : tPoint} {r : tSub × Bool × Er × ttableTable} (h : dtable_Table_Move fu t1 id1 d1 = some r) : ACall Tryz.prog 12 3 [.ptr 0 0, .int .i64 id1, .agg [.int .i64 d1.X, .int .i64 d1.Y]] [(0, 0, .int .i64 t1.Shift), (0, 1, .int .i64 t1.Most), (0, 2, .own 1), (0, 3, .own 2)] [(1, mapK (kInt .i64) (fun x : ttablesub => .agg (c_ttablesub x)) t1.L), (2, mapK (kInt .i64) (fun x : Int => .int .i64 x) t1.Last)] (fun r_ H_ O_ n_ => r_ = .tup [.agg [.int .i64 r.1.Id, .int .i64 r.1.Version, .int .i64 r.1.Region.Rect.X1, .int .i64 r.1.Region.Rect.Y1, .int .i64 r.1.Region.Rect.X2, .int .i64 r.1.Region.Rect.Y2, .sl (r.1.Region.Poly.map c_tPoint), .str (sB r.1.Filter), .int .i64 r.1.Cover.X1, .int .i64 r.1.Cover.Y1, .int .i64 r.1.Cover.X2, .int .i64 r.1.Cover.Y2], .bool r.2.1, .err 55 r.2.2.1] ∧ H_ = [(0, 0, .int .i64 r.2.2.2.Shift), (0, 1, .int .i64 r.2.2.2.Most), (0, 2, .own 3), (0, 3, .own 4)] ∧ O_ = [(3, mapK (kInt .i64) (fun x : ttablesub => .agg (c_ttablesub x)) r.2.2.2.L), (4, mapK (kInt .i64) (fun x : Int => .int .i64 x) r.2.2.2.Last)] ∧ n_ = 5) := by
 rw [dtable_Table_Move] at h
 refine aB_ Tryz.func12 ?_
 refine awp_conv (fun _ _ _ _ _ hi => map_again (κ := (kInt .i64)) (c := (fun x : ttablesub => .agg (c_ttablesub x))) 0 2 1 rfl rfl hi) (awp_conv (fun _ _ _ _ _ hi => map_again (κ := (kInt .i64)) (c := (fun x : Int => .int .i64 x)) 0 3 2 rfl rfl hi) (aSR (rb rfl rfl (ra rfl rfl rfl (rg 2 rfl (rn (aSR (rg 5 rfl (bx h fun is1 hx1 h_1 => rV rfl (va_mgetokN (κ := (kInt .i64)) (c := (fun x : ttablesub => .agg (c_ttablesub x))) (b := t1.L) (kk := id1) (z := (ttablesub.mk (tSub.mk 0 0 (tRegion.mk (tRect.mk 0 0 0 0) []) [] (tRect.mk 0 0 0 0)) (tFilter.mk 0 [] [] [] []))) rfl rfl rfl rfl rfl rfl (by first | exact .inl (.inl rfl) | exact .inr ⟨_, _, rfl, rfl, by repeat (first | exact trivial | refine ⟨by first | exact .inl rfl | exact .inr (.inl ⟨rfl, rfl⟩) | exact .inr (.inr ⟨rfl, _, rfl⟩), ?_⟩)⟩) rfl rfl rfl hx1) ?_)))))))))
 refine rg 3 rfl (ra rfl rfl rfl (rs rfl rfl rfl rfl rfl rfl rfl (rv rfl rfl ?_)))
 obtain ⟨is2, hx2, h_2⟩ := bs h_1
 refine rt (eb' hx2) (rn (aS (aSR (rg 2 rfl (rn (cS2 rfl h_2 (fun h_3 => ?_) fun h_3 => ?_))))))
 ·clear h h_1 h_2
  refine aSR (rg 2 rfl (rs rfl rfl rfl rfl rfl rfl rfl (rg 2 rfl (rn (awp_conv (fun _ _ _ _ _ hi => err_slot 55 8 (some 9) rfl hi) (aT ?_))))))
  obtain rfl := si h_3
  refine rW ?_
  exact rA [0,1,2,3,4]
 clear h h_1 h_2
 refine aK (aSR (rg 4 rfl (bx h_3 fun err1 hx3 h_4 => rc1 rfl rfl rfl (dregion_Move_l hx3) (rg 3 rfl (ra rfl rfl rfl (rs rfl rfl rfl rfl rfl rfl rfl (rv rfl rfl (rn (aS (aSR (rv rfl rfl (rV rfl (va_ennil rfl rfl rfl) (rn (cS2 rfl h_4 (fun h_5 => ?_) fun h_5 => ?_))))))))))))))
 ·clear h_3 h_4
  refine aSR (rg 2 rfl (rs rfl rfl rfl rfl rfl rfl rfl (rg 2 rfl (rn (aT ?_)))))
  obtain rfl := si h_5
  refine rW ?_
  exact rA [0,1,2,3,4]
 clear h_3 h_4
 refine aK (aSR (rg 7 rfl (bx h_5 fun safe1 hx4 h_6 => rc1 rfl rfl rfl (dzone_Safe_l hx4) (rv rfl rfl (rn (aS (aS (bx h_6 fun o5 ho6 h_7 => awp_cut1 (fun x => x = o5) (fun (x1 : Bool) => ⟨[(0, .ptr 0 0), (1, .int .i64 id1), (6, .ptr 3 0), (9, .ptr 4 0), (11, .ptr 5 0), (13, .bool safe1), (56, .bool x1)], [(0, 0, .int .i64 t1.Shift), (0, 1, .int .i64 t1.Most), (0, 2, .own 6), (0, 3, .own 7), (3, 0, .int .i64 0), (3, 1, .int .i64 0), (3, 2, .int .i64 0), (3, 3, .int .i64 0), (3, 4, .int .i64 0), (3, 5, .int .i64 0), (3, 6, .nilS), (3, 7, .str (sB [])), (3, 8, .int .i64 0), (3, 9, .int .i64 0), (3, 10, .int .i64 0), (3, 11, .int .i64 0), (4, 0, .int .i64 is1.Sub.Id), (4, 1, .int .i64 is1.Sub.Version), (4, 2, .int .i64 is1.Sub.Region.Rect.X1), (4, 3, .int .i64 is1.Sub.Region.Rect.Y1), (4, 4, .int .i64 is1.Sub.Region.Rect.X2), (4, 5, .int .i64 is1.Sub.Region.Rect.Y2), (4, 6, .sl (is1.Sub.Region.Poly.map c_tPoint)), (4, 7, .str (sB is1.Sub.Filter)), (4, 8, .int .i64 is1.Sub.Cover.X1), (4, 9, .int .i64 is1.Sub.Cover.Y1), (4, 10, .int .i64 is1.Sub.Cover.X2), (4, 11, .int .i64 is1.Sub.Cover.Y2), (4, 12, .int .i64 is1.F.Kind), (4, 13, .str (sB is1.F.Name)), (4, 14, .str (sB is1.F.Op)), (4, 15, .sl (is1.F.Vals.map c_tAttr)), (4, 16, .sl (cs_tFilter is1.F.L)), (5, 0, .int .i64 err1.1.Rect.X1), (5, 1, .int .i64 err1.1.Rect.Y1), (5, 2, .int .i64 err1.1.Rect.X2), (5, 3, .int .i64 err1.1.Rect.Y2), (5, 4, .sl (err1.1.Poly.map c_tPoint))], [(6, mapK (kInt .i64) (fun x : ttablesub => .agg (c_ttablesub x)) t1.L), (7, mapK (kInt .i64) (fun x : Int => .int .i64 x) t1.Last)], 8⟩) ?_ ?_))))))))
 ·clear h_5 h_6
  refine aR (rg 3 rfl (gT2 rfl rfl rfl rfl rfl ho6 (fun ho6_1 => ?_) fun ho6_1 => ?_))
  ·clear ho6
   exact rg 5 rfl (rn (si ho6_1 ▸ cN [0,1,2,6,7,8,3,4]))
  clear ho6
  exact rg 4 rfl (rn (si ho6_1 ▸ cN [0,1,2,6,7,8,3,4]))
 clear h_5 h_6
 rintro x1 rfl
 refine ch (cS2 rfl h_7 (fun h_8 => ?_) fun h_8 => ?_)
 ·clear h_7
  refine aSR (rg 2 rfl (rs rfl rfl rfl rfl rfl rfl rfl (rg 2 rfl (rn (awp_conv (fun _ _ _ _ _ hi => err_slot 55 8 (some 8) rfl hi) (aT ?_))))))
  obtain rfl := si h_8
  refine rW ?_
  exact rA [0,1,2,6,7]
 clear h_7
 refine aK (aSR (rg 3 rfl (rs rfl rfl rfl rfl rfl rfl rfl (rn (aS (aSR (rg 2 rfl (rn (bx h_8 fun o7 ho8 h_9 => awp_cut1 (fun x => Sum.inl x = o7) (fun (((s1, s2, s3, s4, s5, l1)) : Int × Int × Int × Int × Int × (List (Int × Int))) => ⟨[(0, .ptr 0 0), (1, .int .i64 id1), (6, .ptr 3 0), (9, .ptr 4 0), (13, .bool safe1)], [(0, 0, .int .i64 t1.Shift), (0, 1, .int .i64 t1.Most), (0, 2, .own 5), (0, 3, .own 6), (3, 0, .int .i64 0), (3, 1, .int .i64 0), (3, 2, .int .i64 0), (3, 3, .int .i64 0), (3, 4, .int .i64 0), (3, 5, .int .i64 0), (3, 6, .nilS), (3, 7, .str (sB [])), (3, 8, .int .i64 0), (3, 9, .int .i64 0), (3, 10, .int .i64 0), (3, 11, .int .i64 0), (4, 0, .int .i64 is1.Sub.Id), (4, 1, .int .i64 s1), (4, 2, .int .i64 err1.1.Rect.X1), (4, 3, .int .i64 err1.1.Rect.Y1), (4, 4, .int .i64 err1.1.Rect.X2), (4, 5, .int .i64 err1.1.Rect.Y2), (4, 6, .sl (err1.1.Poly.map c_tPoint)), (4, 7, .str (sB is1.Sub.Filter)), (4, 8, .int .i64 s2), (4, 9, .int .i64 s3), (4, 10, .int .i64 s4), (4, 11, .int .i64 s5), (4, 12, .int .i64 is1.F.Kind), (4, 13, .str (sB is1.F.Name)), (4, 14, .str (sB is1.F.Op)), (4, 15, .sl (is1.F.Vals.map c_tAttr)), (4, 16, .sl (cs_tFilter is1.F.L))], [(5, mapK (kInt .i64) (fun x : ttablesub => .agg (c_ttablesub x)) t1.L), (6, mapK (kInt .i64) (fun x : Int => .int .i64 x) l1)], 7⟩) ?_ ?_)))))))))
 ·clear h_8
  refine cS2 rfl ho8 (fun ho8_1 => ?_) fun ho8_1 => ?_
  ·clear ho8
   refine aS (dX_ 11 [] Tryz.mix (xv [] rfl rfl (fun _ => rfl) (xv [] rfl rfl (fun _ => rfl) (xv [] rfl rfl (fun _ => rfl) (xv [0] rfl rfl (fun _ => rfl) (xv [5] rfl rfl (fun _ => rfl) (bx ho8_1 fun err3 hx10 ho8_2 => xc [] rfl rfl rfl (fun _ => rfl) (fun _ => (dzone_Cover_l hx10)) (xv [] rfl rfl (fun _ => rfl) (xv [] rfl rfl (fun _ => rfl) (xv [] rfl rfl (fun _ => rfl) ?_))))))))))
   refine xE [] (.ptr 8 0) 9 _ _ rfl rfl (by
       refine ra rfl rfl rfl ?_
       exact rn ⟨rfl, rfl⟩) (by rfl) (by rfl) (by rfl) ?_
   refine xE [8] .any 9 _ _ rfl rfl (by
       refine rs rfl rfl rfl rfl rfl rfl rfl ?_
       exact rn ⟨rfl, rfl⟩) (by rfl) (by rfl) (by rfl) ?_
   refine xn (by kernel_rfl) (rv rfl rfl (rn (aS (aSR (rv rfl rfl (rV rfl (va_ennil rfl rfl rfl) (rn (cS2 rfl ho8_2 (fun ho8_3 => ?_) fun ho8_3 => ?_))))))))
   ·clear ho8_1 ho8_2
    refine aSR (rg 2 rfl (rs rfl rfl rfl rfl rfl rfl rfl (rg 2 rfl (rn (aT ?_)))))
    cases ho8_3
    have h_10 := ksr h_9
    subst h_10
    refine rW ?_
    exact rA [0,1,2,6,7]
   clear ho8_1 ho8_2
   exact aK (aSR (rg 6 rfl (rs rfl rfl rfl rfl rfl rfl rfl (rn (aSR (rg 3 rfl (rs rfl rfl rfl rfl rfl rfl rfl (rn (dP_ 8 Tryz.mix (dv rfl rfl (fun _ => rfl) (dv rfl rfl (fun _ => rfl) (dv rfl rfl (fun _ => rfl) (dv rfl rfl (fun _ => rfl) (dv rfl rfl (fun _ => rfl) (dv rfl rfl (fun _ => rfl) (dv rfl rfl (fun _ => rfl) (dv rfl rfl (fun _ => rfl) (dn (bx ho8_3 fun m1 hx11 ho8_4 => rmput (κ := (kInt .i64)) (c := (fun x : Int => .int .i64 x)) (b := t1.Last) (kk := id1) (z := (W (is1.Sub.Version + 1))) rfl rfl rfl rfl rfl rfl rfl rfl rfl (rk (congrArg (mapK (kInt .i64) (fun x : Int => .int .i64 x)) (mpob hx11)) (rn (si ho8_4 ▸ cN [0,1,2,3,4,6,7]))))))))))))))))))))))
  clear ho8
  exact aK (si ho8_1 ▸ cN [0,1,2,3,4,6,7])
 clear h_8
 rintro ⟨s1, s2, s3, s4, s5, l1⟩ rfl
 have h_10 := ksl h_9
 refine ch (aS (dP_ 6 Tryz.mix (dv rfl rfl (fun _ => rfl) (dv rfl rfl (fun _ => rfl) (dv rfl rfl (fun _ => rfl) (dv rfl rfl (fun _ => rfl) (dv rfl rfl (fun _ => rfl) (dv rfl rfl (fun _ => rfl) (dn (bx h_10 fun m2 hx12 h_11 => rmput (κ := (kInt .i64)) (c := (fun x : ttablesub => .agg (c_ttablesub x))) (b := t1.L) (kk := id1) (z := (ttablesub.mk (tSub.mk is1.Sub.Id s1 err1.1 is1.Sub.Filter (tRect.mk s2 s3 s4 s5)) (tFilter.mk is1.F.Kind is1.F.Name is1.F.Op is1.F.Vals is1.F.L))) rfl rfl rfl rfl rfl rfl rfl rfl rfl (rk (congrArg (mapK (kInt .i64) (fun x : ttablesub => .agg (c_ttablesub x))) (mpob hx12)) (rn (aSR (rg 2 rfl (bx h_11 fun x2 hx13 h_12 => rc1 rfl rfl rfl (dtable_copied_l hx13) (rv rfl rfl (rs rfl rfl rfl rfl rfl rfl rfl (rg 2 rfl (rn (awp_conv (fun _ _ _ _ _ hi => err_slot 55 8 none rfl hi) (aT ?_)))))))))))))))))))))
 obtain rfl := si h_12
 refine rW ?_
 exact rA [0,1,2,5,6]
def dtable_Table_Add (fu : Nat) (t1 : ttableTable) (id1 : Int) (g1 : tRegion) (f1 : Str) : Option (tSub × Er × ttableTable) :=
  (bif (decide (id1 < 0)) then some true else (bif (decide (id1 > 2147483647)) then some true else ((dregion_May fu g1).bind fun x2 => some (!x2))) : Option Bool).bind fun (x1 : Bool) => (bif x1 then some ((tSub.mk 0 0 (tRegion.mk (tRect.mk 0 0 0 0) []) [] (tRect.mk 0 0 0 0)), (some 1), t1) else ((dfilter_Read fu f1).bind fun err1 => match err1 with | (.mk kind1 name1 op1 vals1 l1, err2) => bif err2.isSome then some ((tSub.mk 0 0 (tRegion.mk (tRect.mk 0 0 0 0) []) [] (tRect.mk 0 0 0 0)), err2, t1) else ((mgo t1.L id1 (ttablesub.mk (tSub.mk 0 0 (tRegion.mk (tRect.mk 0 0 0 0) []) [] (tRect.mk 0 0 0 0)) (tFilter.mk 0 [] [] [] []))).bind fun is1 => (some ((mg t1.L id1).isSome)).bind fun is2 => bif is2 then some ((tSub.mk 0 0 (tRegion.mk (tRect.mk 0 0 0 0) []) [] (tRect.mk 0 0 0 0)), (some 10), t1) else ((bif (decide ((t1.L.length : Int) ≥ t1.Most)) then some true else ((mgo t1.Last id1 0).bind fun x4 => some (decide (x4 > 2147483645))) : Option Bool).bind fun (x3 : Bool) => (bif x3 then some ((tSub.mk 0 0 (tRegion.mk (tRect.mk 0 0 0 0) []) [] (tRect.mk 0 0 0 0)), (some 8), t1) else ((dzone_Cover fu t1.Shift g1).bind fun err4 => bif err4.2.isSome then some ((tSub.mk 0 0 (tRegion.mk (tRect.mk 0 0 0 0) []) [] (tRect.mk 0 0 0 0)), err4.2, t1) else ((mgo t1.Last id1 0).bind fun x5 => (mpo t1.Last id1 (W (x5 + 1))).bind fun m1 => (mgo m1 id1 0).bind fun x6 => (dtable_copied fu (tSub.mk id1 x6 g1 f1 err4.1)).bind fun x7 => (mpo t1.L id1 (ttablesub.mk x7 (tFilter.mk kind1 name1 op1 vals1 l1))).bind fun m2 => (dtable_copied fu x7).bind fun x8 => some (x8, none, (ttableTable.mk t1.Shift t1.Most m2 m1)))))))))
theorem dtable_Table_Add_l {fu : Nat} {t1 : ttableTable} {id1 : Int} {g1 : tRegion} {f1 : Str} {r : tSub × Er × ttableTable} (h : dtable_Table_Add fu t1 id1 g1 f1 = some r) : ACall Tryz.prog 10 3 [.ptr 0 0, .int .i64 id1, .agg [.int .i64 g1.Rect.X1, .int .i64 g1.Rect.Y1, .int .i64 g1.Rect.X2, .int .i64 g1.Rect.Y2, .sl (g1.Poly.map c_tPoint)], .str (sB f1)] [(0, 0, .int .i64 t1.Shift), (0, 1, .int .i64 t1.Most), (0, 2, .own 1), (0, 3, .own 2)] [(1, mapK (kInt .i64) (fun x : ttablesub => .agg (c_ttablesub x)) t1.L), (2, mapK (kInt .i64) (fun x : Int => .int .i64 x) t1.Last)] (fun r_ H_ O_ n_ => r_ = .tup [.agg [.int .i64 r.1.Id, .int .i64 r.1.Version, .int .i64 r.1.Region.Rect.X1, .int .i64 r.1.Region.Rect.Y1, .int .i64 r.1.Region.Rect.X2, .int .i64 r.1.Region.Rect.Y2, .sl (r.1.Region.Poly.map c_tPoint), .str (sB r.1.Filter), .int .i64 r.1.Cover.X1, .int .i64 r.1.Cover.Y1, .int .i64 r.1.Cover.X2, .int .i64 r.1.Cover.Y2], .err 55 r.2.1] ∧ H_ = [(0, 0, .int .i64 r.2.2.Shift), (0, 1, .int .i64 r.2.2.Most), (0, 2, .own 3), (0, 3, .own 4)] ∧ O_ = [(3, mapK (kInt .i64) (fun x : ttablesub => .agg (c_ttablesub x)) r.2.2.L), (4, mapK (kInt .i64) (fun x : Int => .int .i64 x) r.2.2.Last)] ∧ n_ = 5) := by
 rw [dtable_Table_Add] at h
 refine aB_ Tryz.func10 ?_
 refine awp_conv (fun _ _ _ _ _ hi => map_again (κ := (kInt .i64)) (c := (fun x : ttablesub => .agg (c_ttablesub x))) 0 2 1 rfl rfl hi) (awp_conv (fun _ _ _ _ _ hi => map_again (κ := (kInt .i64)) (c := (fun x : Int => .int .i64 x)) 0 3 2 rfl rfl hi) (aSR (rb rfl rfl (ra rfl rfl rfl (rv rfl rfl (rn (aS (aS (bx h fun o1 ho2 h_1 => awp_cut1 (fun x => x = o1) (fun (x1 : Bool) => ⟨[(0, .ptr 0 0), (1, .int .i64 id1), (3, .str (sB f1)), (6, .ptr 3 0), (8, .ptr 4 0), (26, .bool x1)], [(0, 0, .int .i64 t1.Shift), (0, 1, .int .i64 t1.Most), (0, 2, .own 5), (0, 3, .own 6), (3, 0, .int .i64 g1.Rect.X1), (3, 1, .int .i64 g1.Rect.Y1), (3, 2, .int .i64 g1.Rect.X2), (3, 3, .int .i64 g1.Rect.Y2), (3, 4, .sl (g1.Poly.map c_tPoint)), (4, 0, .int .i64 0), (4, 1, .int .i64 0), (4, 2, .int .i64 0), (4, 3, .int .i64 0), (4, 4, .int .i64 0), (4, 5, .int .i64 0), (4, 6, .nilS), (4, 7, .str (sB [])), (4, 8, .int .i64 0), (4, 9, .int .i64 0), (4, 10, .int .i64 0), (4, 11, .int .i64 0)], [(5, mapK (kInt .i64) (fun x : ttablesub => .agg (c_ttablesub x)) t1.L), (6, mapK (kInt .i64) (fun x : Int => .int .i64 x) t1.Last)], 7⟩) ?_ ?_)))))))))
 ·clear h
  refine aR (rg 3 rfl (gF2 rfl rfl rfl rfl rfl ho2 (fun ho2_1 => ?_) fun ho2_1 => ?_))
  ·clear ho2
   refine rg 4 rfl (gF2 rfl rfl rfl rfl rfl ho2_1 (fun ho2_2 => ?_) fun ho2_2 => ?_)
   ·clear ho2_1
    exact rv rfl rfl (gy rfl rfl rfl (bx ho2_2 fun x2 hx3 ho2_3 => rc1 rfl rfl rfl (dregion_May_l hx3) (rg 2 rfl (rn (si ho2_3 ▸ cN [0,1,2,5,6,3,4])))))
   clear ho2_1
   exact rg 3 rfl (rn (si ho2_2 ▸ cN [0,1,2,5,6,3,4]))
  clear ho2
  exact rg 7 rfl (rn (si ho2_1 ▸ cN [0,1,2,5,6,3,4]))
 clear h
 rintro x1 rfl
 refine ch (cS2 rfl h_1 (fun h_2 => ?_) fun h_2 => ?_)
 ·clear h_1
  refine aSR (rg 2 rfl (rs rfl rfl rfl rfl rfl rfl rfl (rv rfl rfl (rn (awp_conv (fun _ _ _ _ _ hi => err_slot 55 9 (some 1) rfl hi) (aT ?_))))))
  obtain rfl := si h_2
  refine rW ?_
  exact rA [0,1,2,5,6]
 clear h_1
 refine aK (aSR (rv rfl rfl (bx h_2 fun err1 hx4 h_3 => ?_)))
 obtain ⟨⟨kind1, name1, op1, vals1, l1⟩, err2⟩ := err1
 refine rc1 rfl rfl rfl (dfilter_Read_l hx4) (rg 3 rfl (ra rfl rfl rfl (rs rfl rfl rfl rfl rfl rfl rfl (rv rfl rfl (rn (aS (aSR (rv rfl rfl (rV rfl (va_ennil rfl rfl rfl) (rn (cS2 rfl h_3 (fun h_4 => ?_) fun h_4 => ?_)))))))))))
 ·clear h_2 h_3
  refine aSR (rg 2 rfl (rs rfl rfl rfl rfl rfl rfl rfl (rv rfl rfl (rn (aT ?_)))))
  obtain rfl := si h_4
  refine rW ?_
  exact rA [0,1,2,5,6]
 clear h_2 h_3
 refine aK (aSR (rg 5 rfl (bx h_4 fun is1 hx5 h_5 => rV rfl (va_mgetokN (κ := (kInt .i64)) (c := (fun x : ttablesub => .agg (c_ttablesub x))) (b := t1.L) (kk := id1) (z := (ttablesub.mk (tSub.mk 0 0 (tRegion.mk (tRect.mk 0 0 0 0) []) [] (tRect.mk 0 0 0 0)) (tFilter.mk 0 [] [] [] []))) rfl rfl rfl rfl rfl rfl (by first | exact .inl (.inl rfl) | exact .inr ⟨_, _, rfl, rfl, by repeat (first | exact trivial | refine ⟨by first | exact .inl rfl | exact .inr (.inl ⟨rfl, rfl⟩) | exact .inr (.inr ⟨rfl, _, rfl⟩), ?_⟩)⟩) rfl rfl rfl hx5) ?_)))
 refine rg 3 rfl (ra rfl rfl rfl (rs rfl rfl rfl rfl rfl rfl rfl (rv rfl rfl ?_)))
 obtain ⟨is2, hx6, h_6⟩ := bs h_5
 refine rt (eb' hx6) (rn (aS (aB (aSR (rg 2 rfl (rn (cS2 rfl h_6 (fun h_7 => ?_) fun h_7 => ?_)))))))
 ·clear h_4 h_5 h_6
  refine aSR (rg 2 rfl (rs rfl rfl rfl rfl rfl rfl rfl (rv rfl rfl (rn (awp_conv (fun _ _ _ _ _ hi => err_slot 55 9 (some 10) rfl hi) (aT ?_))))))
  obtain rfl := si h_7
  refine rW ?_
  exact rA [0,1,2,5,6]
 clear h_4 h_5 h_6
 refine aS (bx h_7 fun o7 ho8 h_8 => awp_cut1 (fun x => x = o7) (fun (x3 : Bool) => ⟨[(0, .ptr 0 0), (1, .int .i64 id1), (3, .str (sB f1)), (6, .ptr 3 0), (8, .ptr 4 0), (10, .ptr 5 0), (51, .bool x3)], [(0, 0, .int .i64 t1.Shift), (0, 1, .int .i64 t1.Most), (0, 2, .own 6), (0, 3, .own 7), (3, 0, .int .i64 g1.Rect.X1), (3, 1, .int .i64 g1.Rect.Y1), (3, 2, .int .i64 g1.Rect.X2), (3, 3, .int .i64 g1.Rect.Y2), (3, 4, .sl (g1.Poly.map c_tPoint)), (4, 0, .int .i64 0), (4, 1, .int .i64 0), (4, 2, .int .i64 0), (4, 3, .int .i64 0), (4, 4, .int .i64 0), (4, 5, .int .i64 0), (4, 6, .nilS), (4, 7, .str (sB [])), (4, 8, .int .i64 0), (4, 9, .int .i64 0), (4, 10, .int .i64 0), (4, 11, .int .i64 0), (5, 0, .int .i64 kind1), (5, 1, .str (sB name1)), (5, 2, .str (sB op1)), (5, 3, .sl (vals1.map c_tAttr)), (5, 4, .sl (cs_tFilter l1))], [(6, mapK (kInt .i64) (fun x : ttablesub => .agg (c_ttablesub x)) t1.L), (7, mapK (kInt .i64) (fun x : Int => .int .i64 x) t1.Last)], 8⟩) ?_ ?_)
 ·clear h_7
  refine dP_ 20 Tryz.mix (dv rfl rfl (fun _ => rfl) (dv rfl rfl (fun _ => rfl) (dv rfl rfl (fun _ => rfl) (dv rfl rfl (fun _ => rfl) (dV rfl rfl (fun _ => va_mlen (κ := (kInt .i64)) (c := (fun x : ttablesub => .agg (c_ttablesub x))) rfl rfl rfl rfl) (dv rfl rfl (fun _ => rfl) (dv rfl rfl (fun _ => rfl) (dv rfl rfl (fun _ => rfl) (dv rfl rfl (fun _ => rfl) (dv rfl rfl (fun _ => rfl) (dv rfl rfl (fun _ => rfl) (dS2 rfl rfl ho8 (fun ho8_1 => ?_) fun ho8_1 => ?_))))))))))))
  ·clear ho8
   exact dno rfl rfl (dno rfl rfl (dno rfl rfl (dno rfl rfl (dno rfl rfl (dno rfl rfl (dno rfl rfl (dv rfl rfl (fun _ => rfl) (dv rfl rfl (fun _ => rfl) (dn (rn (si ho8_1 ▸ cN [0,1,2,3,4,7,5,6])))))))))))
  clear ho8
  refine dv rfl rfl (fun _ => rfl) (dv rfl rfl (fun _ => rfl) (dv rfl rfl (fun _ => rfl) (dv rfl rfl (fun _ => rfl) (dv rfl rfl (fun _ => rfl) (bx ho8_1 fun x4 hx9 ho8_2 => dV rfl rfl (fun _ => va_mgetN (κ := (kInt .i64)) (c := (fun x : Int => .int .i64 x)) (b := t1.Last) (kk := id1) (z := 0) rfl rfl rfl rfl rfl rfl (by first | exact .inl (.inl rfl) | exact .inr ⟨_, _, rfl, rfl, by repeat (first | exact trivial | refine ⟨by first | exact .inl rfl | exact .inr (.inl ⟨rfl, rfl⟩) | exact .inr (.inr ⟨rfl, _, rfl⟩), ?_⟩)⟩) rfl rfl rfl hx9) ?_)))))
  exact dv rfl rfl (fun _ => rfl) (dv rfl rfl (fun _ => rfl) (dv rfl rfl (fun _ => rfl) (dn (rn (si ho8_2 ▸ cN [0,1,2,3,4,7,5,6])))))
 clear h_7
 rintro x3 rfl
 refine ch (cS2 rfl h_8 (fun h_9 => ?_) fun h_9 => ?_)
 ·clear h_8
  refine aSR (rg 2 rfl (rs rfl rfl rfl rfl rfl rfl rfl (rv rfl rfl (rn (awp_conv (fun _ _ _ _ _ hi => err_slot 55 9 (some 8) rfl hi) (aT ?_))))))
  obtain rfl := si h_9
  refine rW ?_
  exact rA [0,1,2,6,7]
 clear h_8
 refine aK (inBlock_normal (aS (dX_ 11 [] Tryz.mix (xv [] rfl rfl (fun _ => rfl) (xv [] rfl rfl (fun _ => rfl) (xv [] rfl rfl (fun _ => rfl) (xv [0] rfl rfl (fun _ => rfl) (xv [3] rfl rfl (fun _ => rfl) (bx h_9 fun err4 hx11 h_10 => xc [] rfl rfl rfl (fun _ => rfl) (fun _ => (dzone_Cover_l hx11)) (xv [] rfl rfl (fun _ => rfl) (xv [] rfl rfl (fun _ => rfl) (xv [] rfl rfl (fun _ => rfl) ?_))))))))))))
 refine xE [] (.ptr 8 0) 9 _ _ rfl rfl (by
     refine ra rfl rfl rfl ?_
     exact rn ⟨rfl, rfl⟩) (by rfl) (by rfl) (by rfl) ?_
 refine xE [8] .any 9 _ _ rfl rfl (by
     refine rs rfl rfl rfl rfl rfl rfl rfl ?_
     exact rn ⟨rfl, rfl⟩) (by rfl) (by rfl) (by rfl) ?_
 refine xn (by kernel_rfl) (rv rfl rfl (rn (aS (aSR (rv rfl rfl (rV rfl (va_ennil rfl rfl rfl) (rn (cS2 rfl h_10 (fun h_11 => ?_) fun h_11 => ?_))))))))
 ·clear h_9 h_10
  refine aSR (rg 2 rfl (rs rfl rfl rfl rfl rfl rfl rfl (rv rfl rfl (rn (aT ?_)))))
  obtain rfl := si h_11
  refine rW ?_
  exact rA [0,1,2,6,7]
 clear h_9 h_10
 refine aK (aSR (rg 5 rfl (bx h_11 fun x5 hx12 h_12 => rV rfl (va_mgetN (κ := (kInt .i64)) (c := (fun x : Int => .int .i64 x)) (b := t1.Last) (kk := id1) (z := 0) rfl rfl rfl rfl rfl rfl (by first | exact .inl (.inl rfl) | exact .inr ⟨_, _, rfl, rfl, by repeat (first | exact trivial | refine ⟨by first | exact .inl rfl | exact .inr (.inl ⟨rfl, rfl⟩) | exact .inr (.inr ⟨rfl, _, rfl⟩), ?_⟩)⟩) rfl rfl rfl hx12) ?_)))
 refine rv rfl rfl (bx h_12 fun m1 hx13 h_13 => rmput (κ := (kInt .i64)) (c := (fun x : Int => .int .i64 x)) (b := t1.Last) (kk := id1) (z := (W (x5 + 1))) rfl rfl rfl rfl rfl rfl rfl rfl rfl (rk (congrArg (mapK (kInt .i64) (fun x : Int => .int .i64 x)) (mpob hx13)) (rn (aS (dP_ 13 Tryz.mix (dv rfl rfl (fun _ => rfl) (dv rfl rfl (fun _ => rfl) (dv rfl rfl (fun _ => rfl) (dv rfl rfl (fun _ => rfl) (dv rfl rfl (fun _ => rfl) (dv rfl rfl (fun _ => rfl) (bx h_13 fun x6 hx14 h_14 => dV rfl rfl (fun _ => va_mgetN (κ := (kInt .i64)) (c := (fun x : Int => .int .i64 x)) (b := m1) (kk := id1) (z := 0) rfl rfl rfl rfl rfl rfl (by first | exact .inl (.inl rfl) | exact .inr ⟨_, _, rfl, rfl, by repeat (first | exact trivial | refine ⟨by first | exact .inl rfl | exact .inr (.inl ⟨rfl, rfl⟩) | exact .inr (.inr ⟨rfl, _, rfl⟩), ?_⟩)⟩) rfl rfl rfl hx14) ?_))))))))))))
 refine dv rfl rfl (fun _ => rfl) (dv rfl rfl (fun _ => rfl) (dv rfl rfl (fun _ => rfl) (dv rfl rfl (fun _ => rfl) (bx h_14 fun x7 hx15 h_15 => dc rfl rfl rfl rfl (fun _ => rfl) (fun _ => (dtable_copied_l hx15)) (da rfl rfl rfl (dn (rs rfl rfl rfl rfl rfl rfl rfl (rn (aS (dP_ 8 Tryz.mix (dv rfl rfl (fun _ => rfl) (dv rfl rfl (fun _ => rfl) (dv rfl rfl (fun _ => rfl) (dv rfl rfl (fun _ => rfl) (dv rfl rfl (fun _ => rfl) (dv rfl rfl (fun _ => rfl) (dv rfl rfl (fun _ => rfl) (dv rfl rfl (fun _ => rfl) (dn (bx h_15 fun m2 hx16 h_16 => rmput (κ := (kInt .i64)) (c := (fun x : ttablesub => .agg (c_ttablesub x))) (b := t1.L) (kk := id1) (z := (ttablesub.mk x7 (tFilter.mk kind1 name1 op1 vals1 l1))) rfl rfl rfl rfl rfl rfl rfl rfl rfl (rk (congrArg (mapK (kInt .i64) (fun x : ttablesub => .agg (c_ttablesub x))) (mpob hx16)) (rn (aSR (rv rfl rfl (bx h_16 fun x8 hx17 h_17 => rc1 rfl rfl rfl (dtable_copied_l hx17) (rs rfl rfl rfl rfl rfl rfl rfl (rv rfl rfl (rn (awp_conv (fun _ _ _ _ _ hi => err_slot 55 9 none rfl hi) (aT ?_))))))))))))))))))))))))))))))
 obtain rfl := si h_17
 refine rW ?_
 exact rA [0,1,2,6,7]
end
end Go.Proofs.YtbkomicjhfldmaaGreatDoor
