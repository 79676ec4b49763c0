/- The texts of a proof, put together by a program of this session's; names are short for the size's sake. -/
import Derived.Test.YtbkomicjhfldmaaGreatDoorProg
import Derived.Test.YtbkomicjhfldmaaGreatDoorM5
namespace Go.Proofs.YtbkomicjhfldmaaGreatDoor
open Go.Pv
def Tryz.i2 : TI := ⟨(.int .i64), 1, 8, [AV.int .i64 0], true⟩
theorem Tryz.t2 : bn Tryz.prog 2 = some Tryz.i2 := by kernel_rfl
def Tryz.i3 : TI := ⟨(.int .i64), 1, 8, [AV.int .i64 0], true⟩
theorem Tryz.t3 : bn Tryz.prog 3 = some Tryz.i3 := by kernel_rfl
def Tryz.i4 : TI := ⟨.bool, 1, 1, [AV.bool false], true⟩
theorem Tryz.t4 : bn Tryz.prog 4 = some Tryz.i4 := by kernel_rfl
def Tryz.i5 : TI := ⟨(.int .u8), 1, 1, [AV.int .u8 0], true⟩
theorem Tryz.t5 : bn Tryz.prog 5 = some Tryz.i5 := by kernel_rfl
def Tryz.i9 : TI := ⟨.str, 1, 16, [AV.str ByteArray.empty], true⟩
theorem Tryz.t9 : bn Tryz.prog 9 = some Tryz.i9 := by kernel_rfl
def Tryz.i12 : TI := ⟨(.int .u64), 1, 8, [AV.int .u64 0], true⟩
theorem Tryz.t12 : bn Tryz.prog 12 = some Tryz.i12 := by kernel_rfl
def Tryz.i17 : TI := ⟨(.ptr 383), 1, 8, [AV.nilp], true⟩
theorem Tryz.t17 : bn Tryz.prog 17 = some Tryz.i17 := by kernel_rfl
def Tryz.i21 : TI := ⟨(.int .i32), 1, 4, [AV.int .i32 0], true⟩
theorem Tryz.t21 : bn Tryz.prog 21 = some Tryz.i21 := by kernel_rfl
def Tryz.i22 : TI := ⟨(.struct true [(0, 2), (1, 2), (2, 2), (3, 2)]), 4, 32, [AV.int .i64 0, AV.int .i64 0, AV.int .i64 0, AV.int .i64 0], true⟩
theorem Tryz.t22 : bn Tryz.prog 22 = some Tryz.i22 := by kernel_rfl
def Tryz.i23 : TI := ⟨(.struct true [(0, 2), (1, 2), (2, 2), (3, 2)]), 4, 32, [AV.int .i64 0, AV.int .i64 0, AV.int .i64 0, AV.int .i64 0], true⟩
theorem Tryz.t23 : bn Tryz.prog 23 = some Tryz.i23 := by kernel_rfl
def Tryz.i24 : TI := ⟨(.slice 43), 1, 24, [AV.nilS], false⟩
theorem Tryz.t24 : bn Tryz.prog 24 = some Tryz.i24 := by kernel_rfl
def Tryz.i25 : TI := ⟨(.struct true [(0, 23), (4, 24)]), 5, 56, [AV.int .i64 0, AV.int .i64 0, AV.int .i64 0, AV.int .i64 0, AV.nilS], false⟩
theorem Tryz.t25 : bn Tryz.prog 25 = some Tryz.i25 := by kernel_rfl
def Tryz.i26 : TI := ⟨(.struct true [(0, 23), (4, 24)]), 5, 56, [AV.int .i64 0, AV.int .i64 0, AV.int .i64 0, AV.int .i64 0, AV.nilS], false⟩
theorem Tryz.t26 : bn Tryz.prog 26 = some Tryz.i26 := by kernel_rfl
def Tryz.i29 : TI := ⟨(.ptr 98), 1, 8, [AV.nilp], true⟩
theorem Tryz.t29 : bn Tryz.prog 29 = some Tryz.i29 := by kernel_rfl
def Tryz.i30 : TI := ⟨(.iface false), 1, 16, [AV.nilI], true⟩
theorem Tryz.t30 : bn Tryz.prog 30 = some Tryz.i30 := by kernel_rfl
def Tryz.i31 : TI := ⟨(.iface false), 1, 16, [AV.nilI], true⟩
theorem Tryz.t31 : bn Tryz.prog 31 = some Tryz.i31 := by kernel_rfl
def Tryz.i34 : TI := ⟨(.struct true [(0, 3), (1, 3), (2, 26), (7, 9), (8, 23)]), 12, 120, [AV.int .i64 0, AV.int .i64 0, AV.int .i64 0, AV.int .i64 0, AV.int .i64 0, AV.int .i64 0, AV.nilS, AV.str ByteArray.empty, AV.int .i64 0, AV.int .i64 0, AV.int .i64 0, AV.int .i64 0], false⟩
theorem Tryz.t34 : bn Tryz.prog 34 = some Tryz.i34 := by kernel_rfl
def Tryz.i35 : TI := ⟨(.struct true [(0, 3), (1, 3), (2, 26), (7, 9), (8, 23)]), 12, 120, [AV.int .i64 0, AV.int .i64 0, AV.int .i64 0, AV.int .i64 0, AV.int .i64 0, AV.int .i64 0, AV.nilS, AV.str ByteArray.empty, AV.int .i64 0, AV.int .i64 0, AV.int .i64 0, AV.int .i64 0], false⟩
theorem Tryz.t35 : bn Tryz.prog 35 = some Tryz.i35 := by kernel_rfl
def Tryz.i38 : TI := ⟨(.slice 35), 1, 24, [AV.nilS], false⟩
theorem Tryz.t38 : bn Tryz.prog 38 = some Tryz.i38 := by kernel_rfl
def Tryz.i42 : TI := ⟨(.struct true [(0, 2), (1, 2)]), 2, 16, [AV.int .i64 0, AV.int .i64 0], true⟩
theorem Tryz.t42 : bn Tryz.prog 42 = some Tryz.i42 := by kernel_rfl
def Tryz.i43 : TI := ⟨(.struct true [(0, 2), (1, 2)]), 2, 16, [AV.int .i64 0, AV.int .i64 0], true⟩
theorem Tryz.t43 : bn Tryz.prog 43 = some Tryz.i43 := by kernel_rfl
def Tryz.i48 : TI := ⟨(.slice 61), 1, 24, [AV.nilS], false⟩
theorem Tryz.t48 : bn Tryz.prog 48 = some Tryz.i48 := by kernel_rfl
def Tryz.i49 : TI := ⟨(.int .u32), 1, 4, [AV.int .u32 0], true⟩
theorem Tryz.t49 : bn Tryz.prog 49 = some Tryz.i49 := by kernel_rfl
def Tryz.i50 : TI := ⟨(.slice 121), 1, 24, [AV.nilS], false⟩
theorem Tryz.t50 : bn Tryz.prog 50 = some Tryz.i50 := by kernel_rfl
def Tryz.i51 : TI := ⟨(.struct true [(0, 3), (1, 49), (2, 43), (4, 50)]), 5, 56, [AV.int .i64 0, AV.int .u32 0, AV.int .i64 0, AV.int .i64 0, AV.nilS], false⟩
theorem Tryz.t51 : bn Tryz.prog 51 = some Tryz.i51 := by kernel_rfl
def Tryz.i52 : TI := ⟨(.struct true [(0, 3), (1, 49), (2, 43), (4, 50)]), 5, 56, [AV.int .i64 0, AV.int .u32 0, AV.int .i64 0, AV.int .i64 0, AV.nilS], false⟩
theorem Tryz.t52 : bn Tryz.prog 52 = some Tryz.i52 := by kernel_rfl
def Tryz.i54 : TI := ⟨.fn, 1, 8, [AV.nilF], false⟩
theorem Tryz.t54 : bn Tryz.prog 54 = some Tryz.i54 := by kernel_rfl
def Tryz.i55 : TI := ⟨(.int .i64), 1, 8, [AV.int .i64 0], true⟩
theorem Tryz.t55 : bn Tryz.prog 55 = some Tryz.i55 := by kernel_rfl
def Tryz.i56 : TI := ⟨(.ptr 59), 1, 8, [AV.nilp], true⟩
theorem Tryz.t56 : bn Tryz.prog 56 = some Tryz.i56 := by kernel_rfl
def Tryz.i57 : TI := ⟨(.slice 3), 1, 24, [AV.nilS], false⟩
theorem Tryz.t57 : bn Tryz.prog 57 = some Tryz.i57 := by kernel_rfl
def Tryz.i58 : TI := ⟨(.struct true [(0, 3), (1, 3), (2, 38), (3, 57), (4, 57)]), 5, 88, [AV.int .i64 0, AV.int .i64 0, AV.nilS, AV.nilS, AV.nilS], false⟩
theorem Tryz.t58 : bn Tryz.prog 58 = some Tryz.i58 := by kernel_rfl
def Tryz.i59 : TI := ⟨(.struct true [(0, 3), (1, 3), (2, 38), (3, 57), (4, 57)]), 5, 88, [AV.int .i64 0, AV.int .i64 0, AV.nilS, AV.nilS, AV.nilS], false⟩
theorem Tryz.t59 : bn Tryz.prog 59 = some Tryz.i59 := by kernel_rfl
def Tryz.i60 : TI := ⟨(.struct true [(0, 3), (1, 3), (2, 26), (7, 9), (8, 43)]), 10, 104, [AV.int .i64 0, AV.int .i64 0, AV.int .i64 0, AV.int .i64 0, AV.int .i64 0, AV.int .i64 0, AV.nilS, AV.str ByteArray.empty, AV.int .i64 0, AV.int .i64 0], false⟩
theorem Tryz.t60 : bn Tryz.prog 60 = some Tryz.i60 := by kernel_rfl
def Tryz.i61 : TI := ⟨(.struct true [(0, 3), (1, 3), (2, 26), (7, 9), (8, 43)]), 10, 104, [AV.int .i64 0, AV.int .i64 0, AV.int .i64 0, AV.int .i64 0, AV.int .i64 0, AV.int .i64 0, AV.nilS, AV.str ByteArray.empty, AV.int .i64 0, AV.int .i64 0], false⟩
theorem Tryz.t61 : bn Tryz.prog 61 = some Tryz.i61 := by kernel_rfl
def Tryz.i62 : TI := ⟨.fn, 1, 8, [AV.nilF], false⟩
theorem Tryz.t62 : bn Tryz.prog 62 = some Tryz.i62 := by kernel_rfl
def Tryz.i76 : TI := ⟨(.slice 82), 1, 24, [AV.nilS], false⟩
theorem Tryz.t76 : bn Tryz.prog 76 = some Tryz.i76 := by kernel_rfl
def Tryz.i77 : TI := ⟨(.ptr 137), 1, 8, [AV.nilp], true⟩
theorem Tryz.t77 : bn Tryz.prog 77 = some Tryz.i77 := by kernel_rfl
def Tryz.i81 : TI := ⟨(.struct true [(0, 3), (1, 3), (2, 3), (3, 3), (4, 23), (8, 9), (9, 52)]), 14, 136, [AV.int .i64 0, AV.int .i64 0, AV.int .i64 0, AV.int .i64 0, AV.int .i64 0, AV.int .i64 0, AV.int .i64 0, AV.int .i64 0, AV.str ByteArray.empty, AV.int .i64 0, AV.int .u32 0, AV.int .i64 0, AV.int .i64 0, AV.nilS], false⟩
theorem Tryz.t81 : bn Tryz.prog 81 = some Tryz.i81 := by kernel_rfl
def Tryz.i82 : TI := ⟨(.struct true [(0, 3), (1, 3), (2, 3), (3, 3), (4, 23), (8, 9), (9, 52)]), 14, 136, [AV.int .i64 0, AV.int .i64 0, AV.int .i64 0, AV.int .i64 0, AV.int .i64 0, AV.int .i64 0, AV.int .i64 0, AV.int .i64 0, AV.str ByteArray.empty, AV.int .i64 0, AV.int .u32 0, AV.int .i64 0, AV.int .i64 0, AV.nilS], false⟩
theorem Tryz.t82 : bn Tryz.prog 82 = some Tryz.i82 := by kernel_rfl
def Tryz.i84 : TI := ⟨(.slice 87), 1, 24, [AV.nilS], false⟩
theorem Tryz.t84 : bn Tryz.prog 84 = some Tryz.i84 := by kernel_rfl
def Tryz.i86 : TI := ⟨(.struct true [(0, 3), (1, 3)]), 2, 16, [AV.int .i64 0, AV.int .i64 0], true⟩
theorem Tryz.t86 : bn Tryz.prog 86 = some Tryz.i86 := by kernel_rfl
def Tryz.i87 : TI := ⟨(.struct true [(0, 3), (1, 3)]), 2, 16, [AV.int .i64 0, AV.int .i64 0], true⟩
theorem Tryz.t87 : bn Tryz.prog 87 = some Tryz.i87 := by kernel_rfl
def Tryz.i89 : TI := ⟨(.ptr 91), 1, 8, [AV.nilp], true⟩
theorem Tryz.t89 : bn Tryz.prog 89 = some Tryz.i89 := by kernel_rfl
def Tryz.i90 : TI := ⟨(.struct true [(0, 76)]), 1, 24, [AV.nilS], false⟩
theorem Tryz.t90 : bn Tryz.prog 90 = some Tryz.i90 := by kernel_rfl
def Tryz.i91 : TI := ⟨(.struct true [(0, 76)]), 1, 24, [AV.nilS], false⟩
theorem Tryz.t91 : bn Tryz.prog 91 = some Tryz.i91 := by kernel_rfl
def Tryz.i95 : TI := ⟨(.map 3 105), 1, 8, [AV.nilM], false⟩
theorem Tryz.t95 : bn Tryz.prog 95 = some Tryz.i95 := by kernel_rfl
def Tryz.i96 : TI := ⟨(.map 3 3), 1, 8, [AV.nilM], false⟩
theorem Tryz.t96 : bn Tryz.prog 96 = some Tryz.i96 := by kernel_rfl
def Tryz.i97 : TI := ⟨(.struct true [(0, 3), (1, 3), (2, 95), (3, 96)]), 4, 32, [AV.int .i64 0, AV.int .i64 0, AV.nilM, AV.nilM], false⟩
theorem Tryz.t97 : bn Tryz.prog 97 = some Tryz.i97 := by kernel_rfl
def Tryz.i98 : TI := ⟨(.struct true [(0, 3), (1, 3), (2, 95), (3, 96)]), 4, 32, [AV.int .i64 0, AV.int .i64 0, AV.nilM, AV.nilM], false⟩
theorem Tryz.t98 : bn Tryz.prog 98 = some Tryz.i98 := by kernel_rfl
def Tryz.i99 : TI := ⟨(.slice 101), 1, 24, [AV.nilS], false⟩
theorem Tryz.t99 : bn Tryz.prog 99 = some Tryz.i99 := by kernel_rfl
def Tryz.i100 : TI := ⟨(.struct true [(0, 3), (1, 9), (2, 9), (3, 50), (4, 99)]), 5, 88, [AV.int .i64 0, AV.str ByteArray.empty, AV.str ByteArray.empty, AV.nilS, AV.nilS], false⟩
theorem Tryz.t100 : bn Tryz.prog 100 = some Tryz.i100 := by kernel_rfl
def Tryz.i101 : TI := ⟨(.struct true [(0, 3), (1, 9), (2, 9), (3, 50), (4, 99)]), 5, 88, [AV.int .i64 0, AV.str ByteArray.empty, AV.str ByteArray.empty, AV.nilS, AV.nilS], false⟩
theorem Tryz.t101 : bn Tryz.prog 101 = some Tryz.i101 := by kernel_rfl
def Tryz.i104 : TI := ⟨(.struct true [(0, 35), (12, 101)]), 17, 208, [AV.int .i64 0, AV.int .i64 0, AV.int .i64 0, AV.int .i64 0, AV.int .i64 0, AV.int .i64 0, AV.nilS, AV.str ByteArray.empty, AV.int .i64 0, AV.int .i64 0, AV.int .i64 0, AV.int .i64 0, AV.int .i64 0, AV.str ByteArray.empty, AV.str ByteArray.empty, AV.nilS, AV.nilS], false⟩
theorem Tryz.t104 : bn Tryz.prog 104 = some Tryz.i104 := by kernel_rfl
def Tryz.i105 : TI := ⟨(.struct true [(0, 35), (12, 101)]), 17, 208, [AV.int .i64 0, AV.int .i64 0, AV.int .i64 0, AV.int .i64 0, AV.int .i64 0, AV.int .i64 0, AV.nilS, AV.str ByteArray.empty, AV.int .i64 0, AV.int .i64 0, AV.int .i64 0, AV.int .i64 0, AV.int .i64 0, AV.str ByteArray.empty, AV.str ByteArray.empty, AV.nilS, AV.nilS], false⟩
theorem Tryz.t105 : bn Tryz.prog 105 = some Tryz.i105 := by kernel_rfl
def Tryz.i111 : TI := ⟨.fn, 1, 8, [AV.nilF], false⟩
theorem Tryz.t111 : bn Tryz.prog 111 = some Tryz.i111 := by kernel_rfl
def Tryz.i112 : TI := ⟨.fn, 1, 8, [AV.nilF], false⟩
theorem Tryz.t112 : bn Tryz.prog 112 = some Tryz.i112 := by kernel_rfl
def Tryz.i120 : TI := ⟨(.struct true [(0, 9), (1, 4), (2, 2), (3, 9)]), 4, 48, [AV.str ByteArray.empty, AV.bool false, AV.int .i64 0, AV.str ByteArray.empty], true⟩
theorem Tryz.t120 : bn Tryz.prog 120 = some Tryz.i120 := by kernel_rfl
def Tryz.i121 : TI := ⟨(.struct true [(0, 9), (1, 4), (2, 2), (3, 9)]), 4, 48, [AV.str ByteArray.empty, AV.bool false, AV.int .i64 0, AV.str ByteArray.empty], true⟩
theorem Tryz.t121 : bn Tryz.prog 121 = some Tryz.i121 := by kernel_rfl
def Tryz.i132 : TI := ⟨(.ptr 187), 1, 8, [AV.nilp], true⟩
theorem Tryz.t132 : bn Tryz.prog 132 = some Tryz.i132 := by kernel_rfl
def Tryz.i135 : TI := ⟨(.map 3 141), 1, 8, [AV.nilM], false⟩
theorem Tryz.t135 : bn Tryz.prog 135 = some Tryz.i135 := by kernel_rfl
def Tryz.i136 : TI := ⟨(.struct true [(0, 132), (1, 135), (2, 96)]), 3, 24, [AV.nilp, AV.nilM, AV.nilM], false⟩
theorem Tryz.t136 : bn Tryz.prog 136 = some Tryz.i136 := by kernel_rfl
def Tryz.i137 : TI := ⟨(.struct true [(0, 132), (1, 135), (2, 96)]), 3, 24, [AV.nilp, AV.nilM, AV.nilM], false⟩
theorem Tryz.t137 : bn Tryz.prog 137 = some Tryz.i137 := by kernel_rfl
def Tryz.i140 : TI := ⟨(.struct true [(0, 3), (1, 101)]), 6, 96, [AV.int .i64 0, AV.int .i64 0, AV.str ByteArray.empty, AV.str ByteArray.empty, AV.nilS, AV.nilS], false⟩
theorem Tryz.t140 : bn Tryz.prog 140 = some Tryz.i140 := by kernel_rfl
def Tryz.i141 : TI := ⟨(.struct true [(0, 3), (1, 101)]), 6, 96, [AV.int .i64 0, AV.int .i64 0, AV.str ByteArray.empty, AV.str ByteArray.empty, AV.nilS, AV.nilS], false⟩
theorem Tryz.t141 : bn Tryz.prog 141 = some Tryz.i141 := by kernel_rfl
def Tryz.i144 : TI := ⟨(.struct true [(0, 23), (4, 3)]), 5, 40, [AV.int .i64 0, AV.int .i64 0, AV.int .i64 0, AV.int .i64 0, AV.int .i64 0], true⟩
theorem Tryz.t144 : bn Tryz.prog 144 = some Tryz.i144 := by kernel_rfl
def Tryz.i145 : TI := ⟨(.struct true [(0, 23), (4, 3)]), 5, 40, [AV.int .i64 0, AV.int .i64 0, AV.int .i64 0, AV.int .i64 0, AV.int .i64 0], true⟩
theorem Tryz.t145 : bn Tryz.prog 145 = some Tryz.i145 := by kernel_rfl
def Tryz.i149 : TI := ⟨.fn, 1, 8, [AV.nilF], false⟩
theorem Tryz.t149 : bn Tryz.prog 149 = some Tryz.i149 := by kernel_rfl
def Tryz.i150 : TI := ⟨.fn, 1, 8, [AV.nilF], false⟩
theorem Tryz.t150 : bn Tryz.prog 150 = some Tryz.i150 := by kernel_rfl
def Tryz.i152 : TI := ⟨(.slice 204), 1, 24, [AV.nilS], false⟩
theorem Tryz.t152 : bn Tryz.prog 152 = some Tryz.i152 := by kernel_rfl
def Tryz.i155 : TI := ⟨(.ptr 157), 1, 8, [AV.nilp], true⟩
theorem Tryz.t155 : bn Tryz.prog 155 = some Tryz.i155 := by kernel_rfl
def Tryz.i156 : TI := ⟨(.struct true [(0, 152), (1, 4)]), 2, 32, [AV.nilS, AV.bool false], false⟩
theorem Tryz.t156 : bn Tryz.prog 156 = some Tryz.i156 := by kernel_rfl
def Tryz.i157 : TI := ⟨(.struct true [(0, 152), (1, 4)]), 2, 32, [AV.nilS, AV.bool false], false⟩
theorem Tryz.t157 : bn Tryz.prog 157 = some Tryz.i157 := by kernel_rfl
def Tryz.i158 : TI := ⟨.fn, 1, 8, [AV.nilF], false⟩
theorem Tryz.t158 : bn Tryz.prog 158 = some Tryz.i158 := by kernel_rfl
def Tryz.i159 : TI := ⟨.fn, 1, 8, [AV.nilF], false⟩
theorem Tryz.t159 : bn Tryz.prog 159 = some Tryz.i159 := by kernel_rfl
def Tryz.i169 : TI := ⟨(.slice 218), 1, 24, [AV.nilS], false⟩
theorem Tryz.t169 : bn Tryz.prog 169 = some Tryz.i169 := by kernel_rfl
def Tryz.i172 : TI := ⟨(.ptr 174), 1, 8, [AV.nilp], true⟩
theorem Tryz.t172 : bn Tryz.prog 172 = some Tryz.i172 := by kernel_rfl
def Tryz.i173 : TI := ⟨(.struct true [(0, 169), (1, 3), (2, 4)]), 3, 40, [AV.nilS, AV.int .i64 0, AV.bool false], false⟩
theorem Tryz.t173 : bn Tryz.prog 173 = some Tryz.i173 := by kernel_rfl
def Tryz.i174 : TI := ⟨(.struct true [(0, 169), (1, 3), (2, 4)]), 3, 40, [AV.nilS, AV.int .i64 0, AV.bool false], false⟩
theorem Tryz.t174 : bn Tryz.prog 174 = some Tryz.i174 := by kernel_rfl
def Tryz.i181 : TI := ⟨(.ptr 184), 1, 8, [AV.nilp], true⟩
theorem Tryz.t181 : bn Tryz.prog 181 = some Tryz.i181 := by kernel_rfl
def Tryz.i182 : TI := ⟨(.slice 191), 1, 24, [AV.nilS], false⟩
theorem Tryz.t182 : bn Tryz.prog 182 = some Tryz.i182 := by kernel_rfl
def Tryz.i183 : TI := ⟨(.struct true [(0, 3), (1, 182)]), 2, 32, [AV.int .i64 0, AV.nilS], false⟩
theorem Tryz.t183 : bn Tryz.prog 183 = some Tryz.i183 := by kernel_rfl
def Tryz.i184 : TI := ⟨(.struct true [(0, 3), (1, 182)]), 2, 32, [AV.int .i64 0, AV.nilS], false⟩
theorem Tryz.t184 : bn Tryz.prog 184 = some Tryz.i184 := by kernel_rfl
def Tryz.i185 : TI := ⟨(.map 3 23), 1, 8, [AV.nilM], false⟩
theorem Tryz.t185 : bn Tryz.prog 185 = some Tryz.i185 := by kernel_rfl
def Tryz.i186 : TI := ⟨(.struct true [(0, 3), (1, 181), (2, 185)]), 3, 24, [AV.int .i64 0, AV.nilp, AV.nilM], false⟩
theorem Tryz.t186 : bn Tryz.prog 186 = some Tryz.i186 := by kernel_rfl
def Tryz.i187 : TI := ⟨(.struct true [(0, 3), (1, 181), (2, 185)]), 3, 24, [AV.int .i64 0, AV.nilp, AV.nilM], false⟩
theorem Tryz.t187 : bn Tryz.prog 187 = some Tryz.i187 := by kernel_rfl
def Tryz.i190 : TI := ⟨(.struct true [(0, 23), (4, 3), (5, 181)]), 6, 48, [AV.int .i64 0, AV.int .i64 0, AV.int .i64 0, AV.int .i64 0, AV.int .i64 0, AV.nilp], true⟩
theorem Tryz.t190 : bn Tryz.prog 190 = some Tryz.i190 := by kernel_rfl
def Tryz.i191 : TI := ⟨(.struct true [(0, 23), (4, 3), (5, 181)]), 6, 48, [AV.int .i64 0, AV.int .i64 0, AV.int .i64 0, AV.int .i64 0, AV.int .i64 0, AV.nilp], true⟩
theorem Tryz.t191 : bn Tryz.prog 191 = some Tryz.i191 := by kernel_rfl
def Tryz.i192 : TI := ⟨(.struct true [(0, 191), (6, 3)]), 7, 56, [AV.int .i64 0, AV.int .i64 0, AV.int .i64 0, AV.int .i64 0, AV.int .i64 0, AV.nilp, AV.int .i64 0], true⟩
theorem Tryz.t192 : bn Tryz.prog 192 = some Tryz.i192 := by kernel_rfl
def Tryz.i193 : TI := ⟨(.struct true [(0, 191), (6, 3)]), 7, 56, [AV.int .i64 0, AV.int .i64 0, AV.int .i64 0, AV.int .i64 0, AV.int .i64 0, AV.nilp, AV.int .i64 0], true⟩
theorem Tryz.t193 : bn Tryz.prog 193 = some Tryz.i193 := by kernel_rfl
def Tryz.i194 : TI := ⟨(.slice 193), 1, 24, [AV.nilS], false⟩
theorem Tryz.t194 : bn Tryz.prog 194 = some Tryz.i194 := by kernel_rfl
def Tryz.i203 : TI := ⟨(.struct true [(0, 3), (1, 3), (2, 2), (3, 9)]), 4, 40, [AV.int .i64 0, AV.int .i64 0, AV.int .i64 0, AV.str ByteArray.empty], true⟩
theorem Tryz.t203 : bn Tryz.prog 203 = some Tryz.i203 := by kernel_rfl
def Tryz.i204 : TI := ⟨(.struct true [(0, 3), (1, 3), (2, 2), (3, 9)]), 4, 40, [AV.int .i64 0, AV.int .i64 0, AV.int .i64 0, AV.str ByteArray.empty], true⟩
theorem Tryz.t204 : bn Tryz.prog 204 = some Tryz.i204 := by kernel_rfl
def Tryz.i214 : TI := ⟨(.int .u64), 1, 8, [AV.int .u64 0], true⟩
theorem Tryz.t214 : bn Tryz.prog 214 = some Tryz.i214 := by kernel_rfl
def Tryz.i218 : TI := ⟨(.struct true [(0, 3), (1, 3), (2, 2), (3, 9)]), 4, 40, [AV.int .i64 0, AV.int .i64 0, AV.int .i64 0, AV.str ByteArray.empty], true⟩
theorem Tryz.t218 : bn Tryz.prog 218 = some Tryz.i218 := by kernel_rfl
def Tryz.i231 : TI := ⟨.fn, 1, 8, [AV.nilF], false⟩
theorem Tryz.t231 : bn Tryz.prog 231 = some Tryz.i231 := by kernel_rfl
def Tryz.i237 : TI := ⟨.fn, 1, 8, [AV.nilF], false⟩
theorem Tryz.t237 : bn Tryz.prog 237 = some Tryz.i237 := by kernel_rfl
def Tryz.i238 : TI := ⟨(.ptr 241), 1, 8, [AV.nilp], true⟩
theorem Tryz.t238 : bn Tryz.prog 238 = some Tryz.i238 := by kernel_rfl
def Tryz.i239 : TI := ⟨(.map 3 4), 1, 8, [AV.nilM], false⟩
theorem Tryz.t239 : bn Tryz.prog 239 = some Tryz.i239 := by kernel_rfl
def Tryz.i240 : TI := ⟨(.struct true [(0, 132), (1, 239), (2, 194)]), 3, 40, [AV.nilp, AV.nilM, AV.nilS], false⟩
theorem Tryz.t240 : bn Tryz.prog 240 = some Tryz.i240 := by kernel_rfl
def Tryz.i241 : TI := ⟨(.struct true [(0, 132), (1, 239), (2, 194)]), 3, 40, [AV.nilp, AV.nilM, AV.nilS], false⟩
theorem Tryz.t241 : bn Tryz.prog 241 = some Tryz.i241 := by kernel_rfl
def Tryz.i245 : TI := ⟨.fn, 1, 8, [AV.nilF], false⟩
theorem Tryz.t245 : bn Tryz.prog 245 = some Tryz.i245 := by kernel_rfl
def Tryz.i248 : TI := ⟨(.slice 9), 1, 24, [AV.nilS], false⟩
theorem Tryz.t248 : bn Tryz.prog 248 = some Tryz.i248 := by kernel_rfl
def Tryz.i254 : TI := ⟨.fn, 1, 8, [AV.nilF], false⟩
theorem Tryz.t254 : bn Tryz.prog 254 = some Tryz.i254 := by kernel_rfl
def Tryz.i256 : TI := ⟨(.int .i64), 1, 8, [AV.int .i64 0], true⟩
theorem Tryz.t256 : bn Tryz.prog 256 = some Tryz.i256 := by kernel_rfl
def Tryz.i265 : TI := ⟨(.int .u64), 1, 8, [AV.int .u64 0], true⟩
theorem Tryz.t265 : bn Tryz.prog 265 = some Tryz.i265 := by kernel_rfl
def Tryz.i283 : TI := ⟨(.int .u64), 1, 8, [AV.int .u64 0], true⟩
theorem Tryz.t283 : bn Tryz.prog 283 = some Tryz.i283 := by kernel_rfl
def Tryz.i287 : TI := ⟨(.ptr 3), 1, 8, [AV.nilp], true⟩
theorem Tryz.t287 : bn Tryz.prog 287 = some Tryz.i287 := by kernel_rfl
def Tryz.i294 : TI := ⟨(.slice 23), 1, 24, [AV.nilS], false⟩
theorem Tryz.t294 : bn Tryz.prog 294 = some Tryz.i294 := by kernel_rfl
def Tryz.i301 : TI := ⟨(.ptr 283), 1, 8, [AV.nilp], true⟩
theorem Tryz.t301 : bn Tryz.prog 301 = some Tryz.i301 := by kernel_rfl
def Tryz.i331 : TI := ⟨(.slice 335), 1, 24, [AV.nilS], false⟩
theorem Tryz.t331 : bn Tryz.prog 331 = some Tryz.i331 := by kernel_rfl
def Tryz.i334 : TI := ⟨(.struct true [(0, 57), (1, 57), (2, 23), (6, 23)]), 10, 112, [AV.nilS, AV.nilS, AV.int .i64 0, AV.int .i64 0, AV.int .i64 0, AV.int .i64 0, AV.int .i64 0, AV.int .i64 0, AV.int .i64 0, AV.int .i64 0], false⟩
theorem Tryz.t334 : bn Tryz.prog 334 = some Tryz.i334 := by kernel_rfl
def Tryz.i335 : TI := ⟨(.struct true [(0, 57), (1, 57), (2, 23), (6, 23)]), 10, 112, [AV.nilS, AV.nilS, AV.int .i64 0, AV.int .i64 0, AV.int .i64 0, AV.int .i64 0, AV.int .i64 0, AV.int .i64 0, AV.int .i64 0, AV.int .i64 0], false⟩
theorem Tryz.t335 : bn Tryz.prog 335 = some Tryz.i335 := by kernel_rfl
def Tryz.i338 : TI := ⟨.fn, 1, 8, [AV.nilF], false⟩
theorem Tryz.t338 : bn Tryz.prog 338 = some Tryz.i338 := by kernel_rfl
def Tryz.i340 : TI := ⟨(.slice 5), 1, 24, [AV.nilS], false⟩
theorem Tryz.t340 : bn Tryz.prog 340 = some Tryz.i340 := by kernel_rfl
def Tryz.i350 : TI := ⟨(.slice 4), 1, 24, [AV.nilS], false⟩
theorem Tryz.t350 : bn Tryz.prog 350 = some Tryz.i350 := by kernel_rfl
def Tryz.i352 : TI := ⟨(.ptr 5), 1, 8, [AV.nilp], true⟩
theorem Tryz.t352 : bn Tryz.prog 352 = some Tryz.i352 := by kernel_rfl
def Tryz.i379 : TI := ⟨.fn, 1, 8, [AV.nilF], false⟩
theorem Tryz.t379 : bn Tryz.prog 379 = some Tryz.i379 := by kernel_rfl
instance : dI Tryz.prog where
 T := [(2, Tryz.i2), (3, Tryz.i3), (4, Tryz.i4), (5, Tryz.i5), (9, Tryz.i9), (12, Tryz.i12), (17, Tryz.i17), (21, Tryz.i21), (22, Tryz.i22), (23, Tryz.i23), (24, Tryz.i24), (25, Tryz.i25), (26, Tryz.i26), (29, Tryz.i29), (30, Tryz.i30), (31, Tryz.i31), (34, Tryz.i34), (35, Tryz.i35), (38, Tryz.i38), (42, Tryz.i42), (43, Tryz.i43), (48, Tryz.i48), (49, Tryz.i49), (50, Tryz.i50), (51, Tryz.i51), (52, Tryz.i52), (54, Tryz.i54), (55, Tryz.i55), (56, Tryz.i56), (57, Tryz.i57), (58, Tryz.i58), (59, Tryz.i59), (60, Tryz.i60), (61, Tryz.i61), (62, Tryz.i62), (76, Tryz.i76), (77, Tryz.i77), (81, Tryz.i81), (82, Tryz.i82), (84, Tryz.i84), (86, Tryz.i86), (87, Tryz.i87), (89, Tryz.i89), (90, Tryz.i90), (91, Tryz.i91), (95, Tryz.i95), (96, Tryz.i96), (97, Tryz.i97), (98, Tryz.i98), (99, Tryz.i99), (100, Tryz.i100), (101, Tryz.i101), (104, Tryz.i104), (105, Tryz.i105), (111, Tryz.i111), (112, Tryz.i112), (120, Tryz.i120), (121, Tryz.i121), (132, Tryz.i132), (135, Tryz.i135), (136, Tryz.i136), (137, Tryz.i137), (140, Tryz.i140), (141, Tryz.i141), (144, Tryz.i144), (145, Tryz.i145), (149, Tryz.i149), (150, Tryz.i150), (152, Tryz.i152), (155, Tryz.i155), (156, Tryz.i156), (157, Tryz.i157), (158, Tryz.i158), (159, Tryz.i159), (169, Tryz.i169), (172, Tryz.i172), (173, Tryz.i173), (174, Tryz.i174), (181, Tryz.i181), (182, Tryz.i182), (183, Tryz.i183), (184, Tryz.i184), (185, Tryz.i185), (186, Tryz.i186), (187, Tryz.i187), (190, Tryz.i190), (191, Tryz.i191), (192, Tryz.i192), (193, Tryz.i193), (194, Tryz.i194), (203, Tryz.i203), (204, Tryz.i204), (214, Tryz.i214), (218, Tryz.i218), (231, Tryz.i231), (237, Tryz.i237), (238, Tryz.i238), (239, Tryz.i239), (240, Tryz.i240), (241, Tryz.i241), (245, Tryz.i245), (248, Tryz.i248), (254, Tryz.i254), (256, Tryz.i256), (265, Tryz.i265), (283, Tryz.i283), (287, Tryz.i287), (294, Tryz.i294), (301, Tryz.i301), (331, Tryz.i331), (334, Tryz.i334), (335, Tryz.i335), (338, Tryz.i338), (340, Tryz.i340), (350, Tryz.i350), (352, Tryz.i352), (379, Tryz.i379)]
 ok := by
  refine List.forall_mem_cons.2 ⟨Tryz.t2, List.forall_mem_cons.2 ⟨Tryz.t3, List.forall_mem_cons.2 ⟨Tryz.t4, List.forall_mem_cons.2 ⟨Tryz.t5, List.forall_mem_cons.2 ⟨Tryz.t9, List.forall_mem_cons.2 ⟨Tryz.t12, List.forall_mem_cons.2 ⟨Tryz.t17, List.forall_mem_cons.2 ⟨Tryz.t21, List.forall_mem_cons.2 ⟨Tryz.t22, List.forall_mem_cons.2 ⟨Tryz.t23, List.forall_mem_cons.2 ⟨Tryz.t24, List.forall_mem_cons.2 ⟨Tryz.t25, List.forall_mem_cons.2 ⟨Tryz.t26, List.forall_mem_cons.2 ⟨Tryz.t29, List.forall_mem_cons.2 ⟨Tryz.t30, List.forall_mem_cons.2 ⟨Tryz.t31, List.forall_mem_cons.2 ⟨Tryz.t34, List.forall_mem_cons.2 ⟨Tryz.t35, List.forall_mem_cons.2 ⟨Tryz.t38, List.forall_mem_cons.2 ⟨Tryz.t42, List.forall_mem_cons.2 ⟨Tryz.t43, List.forall_mem_cons.2 ⟨Tryz.t48, List.forall_mem_cons.2 ⟨Tryz.t49, List.forall_mem_cons.2 ⟨Tryz.t50, List.forall_mem_cons.2 ⟨Tryz.t51, List.forall_mem_cons.2 ⟨Tryz.t52, List.forall_mem_cons.2 ⟨Tryz.t54, List.forall_mem_cons.2 ⟨Tryz.t55, List.forall_mem_cons.2 ⟨Tryz.t56, List.forall_mem_cons.2 ⟨Tryz.t57, List.forall_mem_cons.2 ⟨Tryz.t58, List.forall_mem_cons.2 ⟨Tryz.t59, List.forall_mem_cons.2 ⟨Tryz.t60, List.forall_mem_cons.2 ⟨Tryz.t61, List.forall_mem_cons.2 ⟨Tryz.t62, List.forall_mem_cons.2 ⟨Tryz.t76, List.forall_mem_cons.2 ⟨Tryz.t77, List.forall_mem_cons.2 ⟨Tryz.t81, List.forall_mem_cons.2 ⟨Tryz.t82, List.forall_mem_cons.2 ⟨Tryz.t84, List.forall_mem_cons.2 ⟨Tryz.t86, List.forall_mem_cons.2 ⟨Tryz.t87, List.forall_mem_cons.2 ⟨Tryz.t89, List.forall_mem_cons.2 ⟨Tryz.t90, List.forall_mem_cons.2 ⟨Tryz.t91, List.forall_mem_cons.2 ⟨Tryz.t95, List.forall_mem_cons.2 ⟨Tryz.t96, List.forall_mem_cons.2 ⟨Tryz.t97, List.forall_mem_cons.2 ⟨Tryz.t98, List.forall_mem_cons.2 ⟨Tryz.t99, List.forall_mem_cons.2 ⟨Tryz.t100, List.forall_mem_cons.2 ⟨Tryz.t101, List.forall_mem_cons.2 ⟨Tryz.t104, List.forall_mem_cons.2 ⟨Tryz.t105, List.forall_mem_cons.2 ⟨Tryz.t111, List.forall_mem_cons.2 ⟨Tryz.t112, List.forall_mem_cons.2 ⟨Tryz.t120, List.forall_mem_cons.2 ⟨Tryz.t121, List.forall_mem_cons.2 ⟨Tryz.t132, List.forall_mem_cons.2 ⟨Tryz.t135, List.forall_mem_cons.2 ⟨Tryz.t136, List.forall_mem_cons.2 ⟨Tryz.t137, List.forall_mem_cons.2 ⟨Tryz.t140, List.forall_mem_cons.2 ⟨Tryz.t141, List.forall_mem_cons.2 ⟨Tryz.t144, List.forall_mem_cons.2 ⟨Tryz.t145, List.forall_mem_cons.2 ⟨Tryz.t149, List.forall_mem_cons.2 ⟨Tryz.t150, List.forall_mem_cons.2 ⟨Tryz.t152, List.forall_mem_cons.2 ⟨Tryz.t155, List.forall_mem_cons.2 ⟨Tryz.t156, List.forall_mem_cons.2 ⟨Tryz.t157, List.forall_mem_cons.2 ⟨Tryz.t158, List.forall_mem_cons.2 ⟨Tryz.t159, List.forall_mem_cons.2 ⟨Tryz.t169, List.forall_mem_cons.2 ⟨Tryz.t172, List.forall_mem_cons.2 ⟨Tryz.t173, List.forall_mem_cons.2 ⟨Tryz.t174, List.forall_mem_cons.2 ⟨Tryz.t181, List.forall_mem_cons.2 ⟨Tryz.t182, List.forall_mem_cons.2 ⟨Tryz.t183, List.forall_mem_cons.2 ⟨Tryz.t184, List.forall_mem_cons.2 ⟨Tryz.t185, List.forall_mem_cons.2 ⟨Tryz.t186, List.forall_mem_cons.2 ⟨Tryz.t187, List.forall_mem_cons.2 ⟨Tryz.t190, List.forall_mem_cons.2 ⟨Tryz.t191, List.forall_mem_cons.2 ⟨Tryz.t192, List.forall_mem_cons.2 ⟨Tryz.t193, List.forall_mem_cons.2 ⟨Tryz.t194, List.forall_mem_cons.2 ⟨Tryz.t203, List.forall_mem_cons.2 ⟨Tryz.t204, List.forall_mem_cons.2 ⟨Tryz.t214, List.forall_mem_cons.2 ⟨Tryz.t218, List.forall_mem_cons.2 ⟨Tryz.t231, List.forall_mem_cons.2 ⟨Tryz.t237, List.forall_mem_cons.2 ⟨Tryz.t238, List.forall_mem_cons.2 ⟨Tryz.t239, List.forall_mem_cons.2 ⟨Tryz.t240, List.forall_mem_cons.2 ⟨Tryz.t241, List.forall_mem_cons.2 ⟨Tryz.t245, List.forall_mem_cons.2 ⟨Tryz.t248, List.forall_mem_cons.2 ⟨Tryz.t254, List.forall_mem_cons.2 ⟨Tryz.t256, List.forall_mem_cons.2 ⟨Tryz.t265, List.forall_mem_cons.2 ⟨Tryz.t283, List.forall_mem_cons.2 ⟨Tryz.t287, List.forall_mem_cons.2 ⟨Tryz.t294, List.forall_mem_cons.2 ⟨Tryz.t301, List.forall_mem_cons.2 ⟨Tryz.t331, List.forall_mem_cons.2 ⟨Tryz.t334, List.forall_mem_cons.2 ⟨Tryz.t335, List.forall_mem_cons.2 ⟨Tryz.t338, List.forall_mem_cons.2 ⟨Tryz.t340, List.forall_mem_cons.2 ⟨Tryz.t350, List.forall_mem_cons.2 ⟨Tryz.t352, List.forall_mem_cons.2 ⟨Tryz.t379, fun _ h => by cases h⟩⟩⟩⟩⟩⟩⟩⟩⟩⟩⟩⟩⟩⟩⟩⟩⟩⟩⟩⟩⟩⟩⟩⟩⟩⟩⟩⟩⟩⟩⟩⟩⟩⟩⟩⟩⟩⟩⟩⟩⟩⟩⟩⟩⟩⟩⟩⟩⟩⟩⟩⟩⟩⟩⟩⟩⟩⟩⟩⟩⟩⟩⟩⟩⟩⟩⟩⟩⟩⟩⟩⟩⟩⟩⟩⟩⟩⟩⟩⟩⟩⟩⟩⟩⟩⟩⟩⟩⟩⟩⟩⟩⟩⟩⟩⟩⟩⟩⟩⟩⟩⟩⟩⟩⟩⟩⟩⟩⟩⟩⟩⟩⟩⟩⟩⟩⟩
theorem Tryz.mix : Tryz.prog.follows .mixedOrders = true := by kernel_rfl
end Go.Proofs.YtbkomicjhfldmaaGreatDoor
namespace Go.Proofs.YtbkomicjhfldmaaGreatDoor
open Go.Pv
set_option maxRecDepth 100000
set_option maxHeartbeats 4000000
set_option linter.unusedSimpArgs false
set_option linter.unusedVariables false
set_option linter.unusedSectionVars false
structure aI where
 Name : aY
 Text : Bool
 N : Int
 S : aY
def au (x : aI) : List AV := [.str (sB x.Name), .bool x.Text, .int .i64 x.N, .str (sB x.S)]
inductive aa where
 | mk (Kind : Int) (Name : aY) (Op : aY) (Vals : List aI) (L : List aa)
def aa.Kind : aa → Int
 | .mk x _ _ _ _ => x
def aa.Name : aa → aY
 | .mk _ x _ _ _ => x
def aa.Op : aa → aY
 | .mk _ _ x _ _ => x
def aa.Vals : aa → List aI
 | .mk _ _ _ x _ => x
def aa.L : aa → List aa
 | .mk _ _ _ _ x => x
mutual
def bd : aa → List AV
 | .mk Kind Name Op Vals L => [.int .i64 Kind, .str (sB Name), .str (sB Op), .sl (Vals.map au), .sl (am L)]
def am : List aa → List (List AV)
 | [] => []
 | x :: l => bd x :: am l
end
theorem cQ : ∀ l : List aa, am l = l.map bd
 | [] => rfl
 | x :: l => by rw [am, cQ l]; rfl
theorem vT (x : aa) : (bd x).length = 5 := by cases x; rfl
theorem wJ (x : aa) : (bd x).all AV.one = true := by cases x; rfl
theorem dB {l : List aa} {i : Int} {x : aa} (h : gi l i = some x) : (am l)[i.toNat]? = some (bd x) := by rw [cQ]; exact kG _ h
theorem cp (l : List aa) : AV.int .i64 (((am l).length : Nat) : Int) = .int .i64 (l.length : Int) := by rw [cQ]; exact lM _ l
theorem bK (l : List aa) : eB 5 (am l) := by rw [cQ]; exact wM vT l
theorem eF (l : List aa) : vF (am l) := by rw [cQ]; exact oM wJ l
theorem dY {a b y : List aa} (h : ap a b = some y) : am a ++ am b = am y := by rw [cQ, cQ, cQ]; exact wR _ h
theorem dX {a b y : List aa} {k : Nat} (hk : Nat.ble k 2048 = true) (h : ap a b = some y) : ((am a).length + (am b).length) * k ≤ 140737488355328 := by rw [cQ, cQ]; exact wA _ hk h
def ig (x : aI) : Prop := Fc x.Name ∧ (fun _ => True) x.Text ∧ Go.Pv.okI .i64 x.N ∧ Fc x.S
theorem BV {n : Nat} {cs : List AV} (h : kB Tryz.prog n 121 cs) : ∃ a : aI, cs = au a ∧ ig a := by
 obtain ⟨m, rfl, h⟩ := iS (i := Tryz.i121) rfl rfl h
 obtain ⟨a0, r0, rfl, _, h0, h⟩ := h
 obtain ⟨a1, r1, rfl, _, h1, h⟩ := h
 obtain ⟨a2, r2, rfl, _, h2, h⟩ := h
 obtain ⟨a3, r3, rfl, _, h3, h⟩ := h
 obtain rfl : r3 = [] := h
 obtain ⟨x0, rfl, k0⟩ := wn (i := Tryz.i9) rfl rfl h0
 obtain ⟨x1, rfl, k1⟩ := CZ (i := Tryz.i4) rfl rfl h1
 obtain ⟨x2, rfl, k2⟩ := gq (i := Tryz.i2) rfl rfl h2
 obtain ⟨x3, rfl, k3⟩ := wn (i := Tryz.i9) rfl rfl h3
 exact ⟨⟨x0, x1, x2, x3⟩, rfl, k0, k1, k2, k3⟩
mutual
def bQ : aa → Prop
 | .mk x0 x1 x2 x3 x4 => Go.Pv.okI .i64 x0 ∧ Fc x1 ∧ Fc x2 ∧ BQ (ig) x3 ∧ (x4.length ≤ maxLen ∧ fd x4)
def fd : List aa → Prop
 | [] => True
 | x :: l => bQ x ∧ fd l
end
end Go.Proofs.YtbkomicjhfldmaaGreatDoor
