/- The types of this program's translation, as a table; each row is read off the program by the kernel. -/
import Derived.Test.YtaekecbadkcggaaDoorPwD
import Derived.Test.YtaekecbadkcggaaDoorProg
namespace Go.Proofs.YtaekecbadkcggaaDoor
open Go.Pv

def Tryd.i2 : TI := ⟨(.int .i64), 1, 8, [AV.int .i64 0], true⟩
theorem Tryd.t2 : tiOf Tryd.prog 2 = some Tryd.i2 := by kernel_rfl
def Tryd.i3 : TI := ⟨(.int .i64), 1, 8, [AV.int .i64 0], true⟩
theorem Tryd.t3 : tiOf Tryd.prog 3 = some Tryd.i3 := by kernel_rfl
def Tryd.i4 : TI := ⟨.bool, 1, 1, [AV.bool false], true⟩
theorem Tryd.t4 : tiOf Tryd.prog 4 = some Tryd.i4 := by kernel_rfl
def Tryd.i5 : TI := ⟨(.int .u8), 1, 1, [AV.int .u8 0], true⟩
theorem Tryd.t5 : tiOf Tryd.prog 5 = some Tryd.i5 := by kernel_rfl
def Tryd.i9 : TI := ⟨.str, 1, 16, [AV.str ByteArray.empty], true⟩
theorem Tryd.t9 : tiOf Tryd.prog 9 = some Tryd.i9 := by kernel_rfl
def Tryd.i23 : TI := ⟨(.slice 36), 1, 24, [AV.nilS], false⟩
theorem Tryd.t23 : tiOf Tryd.prog 23 = some Tryd.i23 := by kernel_rfl
def Tryd.i24 : TI := ⟨(.iface false), 1, 16, [AV.nilI], true⟩
theorem Tryd.t24 : tiOf Tryd.prog 24 = some Tryd.i24 := by kernel_rfl
def Tryd.i25 : TI := ⟨(.iface false), 1, 16, [AV.nilI], true⟩
theorem Tryd.t25 : tiOf Tryd.prog 25 = some Tryd.i25 := by kernel_rfl
def Tryd.i28 : TI := ⟨(.slice 51), 1, 24, [AV.nilS], false⟩
theorem Tryd.t28 : tiOf Tryd.prog 28 = some Tryd.i28 := by kernel_rfl
def Tryd.i35 : TI := ⟨(.struct true [(0, 3), (1, 3), (2, 2), (3, 9)]), 4, 40, [AV.int .i64 0, AV.int .i64 0, AV.int .i64 0, AV.str ByteArray.empty], true⟩
theorem Tryd.t35 : tiOf Tryd.prog 35 = some Tryd.i35 := by kernel_rfl
def Tryd.i36 : TI := ⟨(.struct true [(0, 3), (1, 3), (2, 2), (3, 9)]), 4, 40, [AV.int .i64 0, AV.int .i64 0, AV.int .i64 0, AV.str ByteArray.empty], true⟩
theorem Tryd.t36 : tiOf Tryd.prog 36 = some Tryd.i36 := by kernel_rfl
def Tryd.i37 : TI := ⟨(.slice 62), 1, 24, [AV.nilS], false⟩
theorem Tryd.t37 : tiOf Tryd.prog 37 = some Tryd.i37 := by kernel_rfl
def Tryd.i38 : TI := ⟨(.slice 40), 1, 24, [AV.nilS], false⟩
theorem Tryd.t38 : tiOf Tryd.prog 38 = some Tryd.i38 := by kernel_rfl
def Tryd.i39 : TI := ⟨(.struct true [(0, 3), (1, 9), (2, 9), (3, 37), (4, 38)]), 5, 88, [AV.int .i64 0, AV.str ByteArray.empty, AV.str ByteArray.empty, AV.nilS, AV.nilS], false⟩
theorem Tryd.t39 : tiOf Tryd.prog 39 = some Tryd.i39 := by kernel_rfl
def Tryd.i40 : TI := ⟨(.struct true [(0, 3), (1, 9), (2, 9), (3, 37), (4, 38)]), 5, 88, [AV.int .i64 0, AV.str ByteArray.empty, AV.str ByteArray.empty, AV.nilS, AV.nilS], false⟩
theorem Tryd.t40 : tiOf Tryd.prog 40 = some Tryd.i40 := by kernel_rfl
def Tryd.i41 : TI := ⟨.fn, 1, 8, [AV.nilF], false⟩
theorem Tryd.t41 : tiOf Tryd.prog 41 = some Tryd.i41 := by kernel_rfl
def Tryd.i46 : TI := ⟨.fn, 1, 8, [AV.nilF], false⟩
theorem Tryd.t46 : tiOf Tryd.prog 46 = some Tryd.i46 := by kernel_rfl
def Tryd.i47 : TI := ⟨(.int .i64), 1, 8, [AV.int .i64 0], true⟩
theorem Tryd.t47 : tiOf Tryd.prog 47 = some Tryd.i47 := by kernel_rfl
def Tryd.i51 : TI := ⟨(.struct true [(0, 3), (1, 3), (2, 2), (3, 9)]), 4, 40, [AV.int .i64 0, AV.int .i64 0, AV.int .i64 0, AV.str ByteArray.empty], true⟩
theorem Tryd.t51 : tiOf Tryd.prog 51 = some Tryd.i51 := by kernel_rfl
def Tryd.i56 : TI := ⟨(.ptr 58), 1, 8, [AV.nilp], true⟩
theorem Tryd.t56 : tiOf Tryd.prog 56 = some Tryd.i56 := by kernel_rfl
def Tryd.i57 : TI := ⟨(.struct true [(0, 23), (1, 4)]), 2, 32, [AV.nilS, AV.bool false], false⟩
theorem Tryd.t57 : tiOf Tryd.prog 57 = some Tryd.i57 := by kernel_rfl
def Tryd.i58 : TI := ⟨(.struct true [(0, 23), (1, 4)]), 2, 32, [AV.nilS, AV.bool false], false⟩
theorem Tryd.t58 : tiOf Tryd.prog 58 = some Tryd.i58 := by kernel_rfl
def Tryd.i59 : TI := ⟨.fn, 1, 8, [AV.nilF], false⟩
theorem Tryd.t59 : tiOf Tryd.prog 59 = some Tryd.i59 := by kernel_rfl
def Tryd.i61 : TI := ⟨(.struct true [(0, 9), (1, 4), (2, 2), (3, 9)]), 4, 48, [AV.str ByteArray.empty, AV.bool false, AV.int .i64 0, AV.str ByteArray.empty], true⟩
theorem Tryd.t61 : tiOf Tryd.prog 61 = some Tryd.i61 := by kernel_rfl
def Tryd.i62 : TI := ⟨(.struct true [(0, 9), (1, 4), (2, 2), (3, 9)]), 4, 48, [AV.str ByteArray.empty, AV.bool false, AV.int .i64 0, AV.str ByteArray.empty], true⟩
theorem Tryd.t62 : tiOf Tryd.prog 62 = some Tryd.i62 := by kernel_rfl
def Tryd.i64 : TI := ⟨.fn, 1, 8, [AV.nilF], false⟩
theorem Tryd.t64 : tiOf Tryd.prog 64 = some Tryd.i64 := by kernel_rfl
def Tryd.i67 : TI := ⟨(.slice 9), 1, 24, [AV.nilS], false⟩
theorem Tryd.t67 : tiOf Tryd.prog 67 = some Tryd.i67 := by kernel_rfl
def Tryd.i84 : TI := ⟨(.int .u64), 1, 8, [AV.int .u64 0], true⟩
theorem Tryd.t84 : tiOf Tryd.prog 84 = some Tryd.i84 := by kernel_rfl
def Tryd.i87 : TI := ⟨(.slice 5), 1, 24, [AV.nilS], false⟩
theorem Tryd.t87 : tiOf Tryd.prog 87 = some Tryd.i87 := by kernel_rfl
def Tryd.i107 : TI := ⟨.fn, 1, 8, [AV.nilF], false⟩
theorem Tryd.t107 : tiOf Tryd.prog 107 = some Tryd.i107 := by kernel_rfl
def Tryd.i133 : TI := ⟨(.slice 3), 1, 24, [AV.nilS], false⟩
theorem Tryd.t133 : tiOf Tryd.prog 133 = some Tryd.i133 := by kernel_rfl

instance : Tab Tryd.prog where
  T := [(2, Tryd.i2), (3, Tryd.i3), (4, Tryd.i4), (5, Tryd.i5), (9, Tryd.i9), (23, Tryd.i23), (24, Tryd.i24), (25, Tryd.i25), (28, Tryd.i28), (35, Tryd.i35), (36, Tryd.i36), (37, Tryd.i37), (38, Tryd.i38), (39, Tryd.i39), (40, Tryd.i40), (41, Tryd.i41), (46, Tryd.i46), (47, Tryd.i47), (51, Tryd.i51), (56, Tryd.i56), (57, Tryd.i57), (58, Tryd.i58), (59, Tryd.i59), (61, Tryd.i61), (62, Tryd.i62), (64, Tryd.i64), (67, Tryd.i67), (84, Tryd.i84), (87, Tryd.i87), (107, Tryd.i107), (133, Tryd.i133)]
  ok := by
    refine List.forall_mem_cons.2 ⟨Tryd.t2, List.forall_mem_cons.2 ⟨Tryd.t3, List.forall_mem_cons.2 ⟨Tryd.t4, List.forall_mem_cons.2 ⟨Tryd.t5, List.forall_mem_cons.2 ⟨Tryd.t9, List.forall_mem_cons.2 ⟨Tryd.t23, List.forall_mem_cons.2 ⟨Tryd.t24, List.forall_mem_cons.2 ⟨Tryd.t25, List.forall_mem_cons.2 ⟨Tryd.t28, List.forall_mem_cons.2 ⟨Tryd.t35, List.forall_mem_cons.2 ⟨Tryd.t36, List.forall_mem_cons.2 ⟨Tryd.t37, List.forall_mem_cons.2 ⟨Tryd.t38, List.forall_mem_cons.2 ⟨Tryd.t39, List.forall_mem_cons.2 ⟨Tryd.t40, List.forall_mem_cons.2 ⟨Tryd.t41, List.forall_mem_cons.2 ⟨Tryd.t46, List.forall_mem_cons.2 ⟨Tryd.t47, List.forall_mem_cons.2 ⟨Tryd.t51, List.forall_mem_cons.2 ⟨Tryd.t56, List.forall_mem_cons.2 ⟨Tryd.t57, List.forall_mem_cons.2 ⟨Tryd.t58, List.forall_mem_cons.2 ⟨Tryd.t59, List.forall_mem_cons.2 ⟨Tryd.t61, List.forall_mem_cons.2 ⟨Tryd.t62, List.forall_mem_cons.2 ⟨Tryd.t64, List.forall_mem_cons.2 ⟨Tryd.t67, List.forall_mem_cons.2 ⟨Tryd.t84, List.forall_mem_cons.2 ⟨Tryd.t87, List.forall_mem_cons.2 ⟨Tryd.t107, List.forall_mem_cons.2 ⟨Tryd.t133, fun _ h => by cases h⟩⟩⟩⟩⟩⟩⟩⟩⟩⟩⟩⟩⟩⟩⟩⟩⟩⟩⟩⟩⟩⟩⟩⟩⟩⟩⟩⟩⟩⟩⟩
theorem Tryd.mix : Tryd.prog.follows .mixedOrders = true := by kernel_rfl

end Go.Proofs.YtaekecbadkcggaaDoor
