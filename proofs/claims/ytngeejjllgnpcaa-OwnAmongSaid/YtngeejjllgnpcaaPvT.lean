/- The types of this program's translation, as a table; each row is read off the program by the kernel. -/
import Derived.Test.YtngeejjllgnpcaaPwD
import Derived.Test.YtngeejjllgnpcaaProg
namespace Go.Proofs.Ytngeejjllgnpcaa
open Go.Pv

def Try.i2 : TI := ⟨(.int .i64), 1, 8, [AV.int .i64 0], true⟩
theorem Try.t2 : tiOf Try.prog 2 = some Try.i2 := by kernel_rfl
def Try.i3 : TI := ⟨(.int .i64), 1, 8, [AV.int .i64 0], true⟩
theorem Try.t3 : tiOf Try.prog 3 = some Try.i3 := by kernel_rfl
def Try.i4 : TI := ⟨.bool, 1, 1, [AV.bool false], true⟩
theorem Try.t4 : tiOf Try.prog 4 = some Try.i4 := by kernel_rfl
def Try.i5 : TI := ⟨(.int .u8), 1, 1, [AV.int .u8 0], true⟩
theorem Try.t5 : tiOf Try.prog 5 = some Try.i5 := by kernel_rfl
def Try.i9 : TI := ⟨.str, 1, 16, [AV.str ByteArray.empty], true⟩
theorem Try.t9 : tiOf Try.prog 9 = some Try.i9 := by kernel_rfl
def Try.i12 : TI := ⟨(.int .u64), 1, 8, [AV.int .u64 0], true⟩
theorem Try.t12 : tiOf Try.prog 12 = some Try.i12 := by kernel_rfl
def Try.i17 : TI := ⟨(.ptr 157), 1, 8, [AV.nilp], true⟩
theorem Try.t17 : tiOf Try.prog 17 = some Try.i17 := by kernel_rfl
def Try.i21 : TI := ⟨(.int .i32), 1, 4, [AV.int .i32 0], true⟩
theorem Try.t21 : tiOf Try.prog 21 = some Try.i21 := by kernel_rfl
def Try.i22 : TI := ⟨(.slice 24), 1, 24, [AV.nilS], false⟩
theorem Try.t22 : tiOf Try.prog 22 = some Try.i22 := by kernel_rfl
def Try.i23 : TI := ⟨(.struct true [(0, 2), (1, 2)]), 2, 16, [AV.int .i64 0, AV.int .i64 0], true⟩
theorem Try.t23 : tiOf Try.prog 23 = some Try.i23 := by kernel_rfl
def Try.i24 : TI := ⟨(.struct true [(0, 2), (1, 2)]), 2, 16, [AV.int .i64 0, AV.int .i64 0], true⟩
theorem Try.t24 : tiOf Try.prog 24 = some Try.i24 := by kernel_rfl
def Try.i27 : TI := ⟨.fn, 1, 8, [AV.nilF], false⟩
theorem Try.t27 : tiOf Try.prog 27 = some Try.i27 := by kernel_rfl
def Try.i29 : TI := ⟨(.int .u64), 1, 8, [AV.int .u64 0], true⟩
theorem Try.t29 : tiOf Try.prog 29 = some Try.i29 := by kernel_rfl
def Try.i31 : TI := ⟨(.iface false), 1, 16, [AV.nilI], true⟩
theorem Try.t31 : tiOf Try.prog 31 = some Try.i31 := by kernel_rfl
def Try.i32 : TI := ⟨(.iface false), 1, 16, [AV.nilI], true⟩
theorem Try.t32 : tiOf Try.prog 32 = some Try.i32 := by kernel_rfl
def Try.i35 : TI := ⟨(.int .i64), 1, 8, [AV.int .i64 0], true⟩
theorem Try.t35 : tiOf Try.prog 35 = some Try.i35 := by kernel_rfl
def Try.i37 : TI := ⟨(.struct true [(0, 2), (1, 2), (2, 2), (3, 2)]), 4, 32, [AV.int .i64 0, AV.int .i64 0, AV.int .i64 0, AV.int .i64 0], true⟩
theorem Try.t37 : tiOf Try.prog 37 = some Try.i37 := by kernel_rfl
def Try.i38 : TI := ⟨(.struct true [(0, 2), (1, 2), (2, 2), (3, 2)]), 4, 32, [AV.int .i64 0, AV.int .i64 0, AV.int .i64 0, AV.int .i64 0], true⟩
theorem Try.t38 : tiOf Try.prog 38 = some Try.i38 := by kernel_rfl
def Try.i43 : TI := ⟨(.struct true [(0, 38), (4, 22)]), 5, 56, [AV.int .i64 0, AV.int .i64 0, AV.int .i64 0, AV.int .i64 0, AV.nilS], false⟩
theorem Try.t43 : tiOf Try.prog 43 = some Try.i43 := by kernel_rfl
def Try.i44 : TI := ⟨(.struct true [(0, 38), (4, 22)]), 5, 56, [AV.int .i64 0, AV.int .i64 0, AV.int .i64 0, AV.int .i64 0, AV.nilS], false⟩
theorem Try.t44 : tiOf Try.prog 44 = some Try.i44 := by kernel_rfl
def Try.i67 : TI := ⟨(.slice 29), 1, 24, [AV.nilS], false⟩
theorem Try.t67 : tiOf Try.prog 67 = some Try.i67 := by kernel_rfl
def Try.i81 : TI := ⟨(.slice 3), 1, 24, [AV.nilS], false⟩
theorem Try.t81 : tiOf Try.prog 81 = some Try.i81 := by kernel_rfl
def Try.i107 : TI := ⟨(.int .u64), 1, 8, [AV.int .u64 0], true⟩
theorem Try.t107 : tiOf Try.prog 107 = some Try.i107 := by kernel_rfl
def Try.i111 : TI := ⟨(.slice 4), 1, 24, [AV.nilS], false⟩
theorem Try.t111 : tiOf Try.prog 111 = some Try.i111 := by kernel_rfl
def Try.i120 : TI := ⟨.fn, 1, 8, [AV.nilF], false⟩
theorem Try.t120 : tiOf Try.prog 120 = some Try.i120 := by kernel_rfl
def Try.i122 : TI := ⟨(.int .i64), 1, 8, [AV.int .i64 0], true⟩
theorem Try.t122 : tiOf Try.prog 122 = some Try.i122 := by kernel_rfl
def Try.i131 : TI := ⟨(.int .u32), 1, 4, [AV.int .u32 0], true⟩
theorem Try.t131 : tiOf Try.prog 131 = some Try.i131 := by kernel_rfl
def Try.i133 : TI := ⟨(.int .u64), 1, 8, [AV.int .u64 0], true⟩
theorem Try.t133 : tiOf Try.prog 133 = some Try.i133 := by kernel_rfl
def Try.i137 : TI := ⟨(.ptr 3), 1, 8, [AV.nilp], true⟩
theorem Try.t137 : tiOf Try.prog 137 = some Try.i137 := by kernel_rfl
def Try.i140 : TI := ⟨(.ptr 133), 1, 8, [AV.nilp], true⟩
theorem Try.t140 : tiOf Try.prog 140 = some Try.i140 := by kernel_rfl
def Try.i152 : TI := ⟨.fn, 1, 8, [AV.nilF], false⟩
theorem Try.t152 : tiOf Try.prog 152 = some Try.i152 := by kernel_rfl
def Try.i153 : TI := ⟨(.ptr 5), 1, 8, [AV.nilp], true⟩
theorem Try.t153 : tiOf Try.prog 153 = some Try.i153 := by kernel_rfl

instance : Tab Try.prog where
  T := [(2, Try.i2), (3, Try.i3), (4, Try.i4), (5, Try.i5), (9, Try.i9), (12, Try.i12), (17, Try.i17), (21, Try.i21), (22, Try.i22), (23, Try.i23), (24, Try.i24), (27, Try.i27), (29, Try.i29), (31, Try.i31), (32, Try.i32), (35, Try.i35), (37, Try.i37), (38, Try.i38), (43, Try.i43), (44, Try.i44), (67, Try.i67), (81, Try.i81), (107, Try.i107), (111, Try.i111), (120, Try.i120), (122, Try.i122), (131, Try.i131), (133, Try.i133), (137, Try.i137), (140, Try.i140), (152, Try.i152), (153, Try.i153)]
  ok := by
    refine List.forall_mem_cons.2 ⟨Try.t2, List.forall_mem_cons.2 ⟨Try.t3, List.forall_mem_cons.2 ⟨Try.t4, List.forall_mem_cons.2 ⟨Try.t5, List.forall_mem_cons.2 ⟨Try.t9, List.forall_mem_cons.2 ⟨Try.t12, List.forall_mem_cons.2 ⟨Try.t17, List.forall_mem_cons.2 ⟨Try.t21, List.forall_mem_cons.2 ⟨Try.t22, List.forall_mem_cons.2 ⟨Try.t23, List.forall_mem_cons.2 ⟨Try.t24, List.forall_mem_cons.2 ⟨Try.t27, List.forall_mem_cons.2 ⟨Try.t29, List.forall_mem_cons.2 ⟨Try.t31, List.forall_mem_cons.2 ⟨Try.t32, List.forall_mem_cons.2 ⟨Try.t35, List.forall_mem_cons.2 ⟨Try.t37, List.forall_mem_cons.2 ⟨Try.t38, List.forall_mem_cons.2 ⟨Try.t43, List.forall_mem_cons.2 ⟨Try.t44, List.forall_mem_cons.2 ⟨Try.t67, List.forall_mem_cons.2 ⟨Try.t81, List.forall_mem_cons.2 ⟨Try.t107, List.forall_mem_cons.2 ⟨Try.t111, List.forall_mem_cons.2 ⟨Try.t120, List.forall_mem_cons.2 ⟨Try.t122, List.forall_mem_cons.2 ⟨Try.t131, List.forall_mem_cons.2 ⟨Try.t133, List.forall_mem_cons.2 ⟨Try.t137, List.forall_mem_cons.2 ⟨Try.t140, List.forall_mem_cons.2 ⟨Try.t152, List.forall_mem_cons.2 ⟨Try.t153, fun _ h => by cases h⟩⟩⟩⟩⟩⟩⟩⟩⟩⟩⟩⟩⟩⟩⟩⟩⟩⟩⟩⟩⟩⟩⟩⟩⟩⟩⟩⟩⟩⟩⟩⟩
theorem Try.mix : Try.prog.follows .mixedOrders = true := by kernel_rfl

end Go.Proofs.Ytngeejjllgnpcaa
