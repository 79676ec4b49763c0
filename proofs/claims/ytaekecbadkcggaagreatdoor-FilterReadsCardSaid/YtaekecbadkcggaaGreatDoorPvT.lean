/- The types of this program's translation, as a table; each row is read off the program by the kernel. -/
import Derived.Test.YtaekecbadkcggaaGreatDoorPwD
import Derived.Test.YtaekecbadkcggaaGreatDoorProg
namespace Go.Proofs.YtaekecbadkcggaaGreatDoor
open Go.Pv

def Tryz.i2 : TI := ⟨(.int .i64), 1, 8, [AV.int .i64 0], true⟩
theorem Tryz.t2 : tiOf Tryz.prog 2 = some Tryz.i2 := by kernel_rfl
def Tryz.i3 : TI := ⟨(.int .i64), 1, 8, [AV.int .i64 0], true⟩
theorem Tryz.t3 : tiOf Tryz.prog 3 = some Tryz.i3 := by kernel_rfl
def Tryz.i4 : TI := ⟨.bool, 1, 1, [AV.bool false], true⟩
theorem Tryz.t4 : tiOf Tryz.prog 4 = some Tryz.i4 := by kernel_rfl
def Tryz.i5 : TI := ⟨(.int .u8), 1, 1, [AV.int .u8 0], true⟩
theorem Tryz.t5 : tiOf Tryz.prog 5 = some Tryz.i5 := by kernel_rfl
def Tryz.i9 : TI := ⟨.str, 1, 16, [AV.str ByteArray.empty], true⟩
theorem Tryz.t9 : tiOf Tryz.prog 9 = some Tryz.i9 := by kernel_rfl
def Tryz.i23 : TI := ⟨(.slice 55), 1, 24, [AV.nilS], false⟩
theorem Tryz.t23 : tiOf Tryz.prog 23 = some Tryz.i23 := by kernel_rfl
def Tryz.i24 : TI := ⟨(.slice 26), 1, 24, [AV.nilS], false⟩
theorem Tryz.t24 : tiOf Tryz.prog 24 = some Tryz.i24 := by kernel_rfl
def Tryz.i25 : TI := ⟨(.struct true [(0, 3), (1, 9), (2, 9), (3, 23), (4, 24)]), 5, 88, [AV.int .i64 0, AV.str ByteArray.empty, AV.str ByteArray.empty, AV.nilS, AV.nilS], false⟩
theorem Tryz.t25 : tiOf Tryz.prog 25 = some Tryz.i25 := by kernel_rfl
def Tryz.i26 : TI := ⟨(.struct true [(0, 3), (1, 9), (2, 9), (3, 23), (4, 24)]), 5, 88, [AV.int .i64 0, AV.str ByteArray.empty, AV.str ByteArray.empty, AV.nilS, AV.nilS], false⟩
theorem Tryz.t26 : tiOf Tryz.prog 26 = some Tryz.i26 := by kernel_rfl
def Tryz.i27 : TI := ⟨(.iface false), 1, 16, [AV.nilI], true⟩
theorem Tryz.t27 : tiOf Tryz.prog 27 = some Tryz.i27 := by kernel_rfl
def Tryz.i28 : TI := ⟨(.iface false), 1, 16, [AV.nilI], true⟩
theorem Tryz.t28 : tiOf Tryz.prog 28 = some Tryz.i28 := by kernel_rfl
def Tryz.i34 : TI := ⟨.fn, 1, 8, [AV.nilF], false⟩
theorem Tryz.t34 : tiOf Tryz.prog 34 = some Tryz.i34 := by kernel_rfl
def Tryz.i36 : TI := ⟨.fn, 1, 8, [AV.nilF], false⟩
theorem Tryz.t36 : tiOf Tryz.prog 36 = some Tryz.i36 := by kernel_rfl
def Tryz.i39 : TI := ⟨(.int .i64), 1, 8, [AV.int .i64 0], true⟩
theorem Tryz.t39 : tiOf Tryz.prog 39 = some Tryz.i39 := by kernel_rfl
def Tryz.i41 : TI := ⟨(.slice 64), 1, 24, [AV.nilS], false⟩
theorem Tryz.t41 : tiOf Tryz.prog 41 = some Tryz.i41 := by kernel_rfl
def Tryz.i44 : TI := ⟨(.ptr 46), 1, 8, [AV.nilp], true⟩
theorem Tryz.t44 : tiOf Tryz.prog 44 = some Tryz.i44 := by kernel_rfl
def Tryz.i45 : TI := ⟨(.struct true [(0, 41), (1, 4)]), 2, 32, [AV.nilS, AV.bool false], false⟩
theorem Tryz.t45 : tiOf Tryz.prog 45 = some Tryz.i45 := by kernel_rfl
def Tryz.i46 : TI := ⟨(.struct true [(0, 41), (1, 4)]), 2, 32, [AV.nilS, AV.bool false], false⟩
theorem Tryz.t46 : tiOf Tryz.prog 46 = some Tryz.i46 := by kernel_rfl
def Tryz.i47 : TI := ⟨.fn, 1, 8, [AV.nilF], false⟩
theorem Tryz.t47 : tiOf Tryz.prog 47 = some Tryz.i47 := by kernel_rfl
def Tryz.i48 : TI := ⟨(.slice 68), 1, 24, [AV.nilS], false⟩
theorem Tryz.t48 : tiOf Tryz.prog 48 = some Tryz.i48 := by kernel_rfl
def Tryz.i51 : TI := ⟨(.ptr 53), 1, 8, [AV.nilp], true⟩
theorem Tryz.t51 : tiOf Tryz.prog 51 = some Tryz.i51 := by kernel_rfl
def Tryz.i52 : TI := ⟨(.struct true [(0, 48), (1, 3), (2, 4)]), 3, 40, [AV.nilS, AV.int .i64 0, AV.bool false], false⟩
theorem Tryz.t52 : tiOf Tryz.prog 52 = some Tryz.i52 := by kernel_rfl
def Tryz.i53 : TI := ⟨(.struct true [(0, 48), (1, 3), (2, 4)]), 3, 40, [AV.nilS, AV.int .i64 0, AV.bool false], false⟩
theorem Tryz.t53 : tiOf Tryz.prog 53 = some Tryz.i53 := by kernel_rfl
def Tryz.i54 : TI := ⟨(.struct true [(0, 9), (1, 4), (2, 2), (3, 9)]), 4, 48, [AV.str ByteArray.empty, AV.bool false, AV.int .i64 0, AV.str ByteArray.empty], true⟩
theorem Tryz.t54 : tiOf Tryz.prog 54 = some Tryz.i54 := by kernel_rfl
def Tryz.i55 : TI := ⟨(.struct true [(0, 9), (1, 4), (2, 2), (3, 9)]), 4, 48, [AV.str ByteArray.empty, AV.bool false, AV.int .i64 0, AV.str ByteArray.empty], true⟩
theorem Tryz.t55 : tiOf Tryz.prog 55 = some Tryz.i55 := by kernel_rfl
def Tryz.i63 : TI := ⟨(.struct true [(0, 3), (1, 3), (2, 2), (3, 9)]), 4, 40, [AV.int .i64 0, AV.int .i64 0, AV.int .i64 0, AV.str ByteArray.empty], true⟩
theorem Tryz.t63 : tiOf Tryz.prog 63 = some Tryz.i63 := by kernel_rfl
def Tryz.i64 : TI := ⟨(.struct true [(0, 3), (1, 3), (2, 2), (3, 9)]), 4, 40, [AV.int .i64 0, AV.int .i64 0, AV.int .i64 0, AV.str ByteArray.empty], true⟩
theorem Tryz.t64 : tiOf Tryz.prog 64 = some Tryz.i64 := by kernel_rfl
def Tryz.i68 : TI := ⟨(.struct true [(0, 3), (1, 3), (2, 2), (3, 9)]), 4, 40, [AV.int .i64 0, AV.int .i64 0, AV.int .i64 0, AV.str ByteArray.empty], true⟩
theorem Tryz.t68 : tiOf Tryz.prog 68 = some Tryz.i68 := by kernel_rfl
def Tryz.i72 : TI := ⟨(.slice 9), 1, 24, [AV.nilS], false⟩
theorem Tryz.t72 : tiOf Tryz.prog 72 = some Tryz.i72 := by kernel_rfl
def Tryz.i77 : TI := ⟨.fn, 1, 8, [AV.nilF], false⟩
theorem Tryz.t77 : tiOf Tryz.prog 77 = some Tryz.i77 := by kernel_rfl
def Tryz.i88 : TI := ⟨(.slice 5), 1, 24, [AV.nilS], false⟩
theorem Tryz.t88 : tiOf Tryz.prog 88 = some Tryz.i88 := by kernel_rfl
def Tryz.i102 : TI := ⟨(.int .u64), 1, 8, [AV.int .u64 0], true⟩
theorem Tryz.t102 : tiOf Tryz.prog 102 = some Tryz.i102 := by kernel_rfl
def Tryz.i105 : TI := ⟨.fn, 1, 8, [AV.nilF], false⟩
theorem Tryz.t105 : tiOf Tryz.prog 105 = some Tryz.i105 := by kernel_rfl
def Tryz.i136 : TI := ⟨(.slice 3), 1, 24, [AV.nilS], false⟩
theorem Tryz.t136 : tiOf Tryz.prog 136 = some Tryz.i136 := by kernel_rfl

instance : Tab Tryz.prog where
  T := [(2, Tryz.i2), (3, Tryz.i3), (4, Tryz.i4), (5, Tryz.i5), (9, Tryz.i9), (23, Tryz.i23), (24, Tryz.i24), (25, Tryz.i25), (26, Tryz.i26), (27, Tryz.i27), (28, Tryz.i28), (34, Tryz.i34), (36, Tryz.i36), (39, Tryz.i39), (41, Tryz.i41), (44, Tryz.i44), (45, Tryz.i45), (46, Tryz.i46), (47, Tryz.i47), (48, Tryz.i48), (51, Tryz.i51), (52, Tryz.i52), (53, Tryz.i53), (54, Tryz.i54), (55, Tryz.i55), (63, Tryz.i63), (64, Tryz.i64), (68, Tryz.i68), (72, Tryz.i72), (77, Tryz.i77), (88, Tryz.i88), (102, Tryz.i102), (105, Tryz.i105), (136, Tryz.i136)]
  ok := by
    refine List.forall_mem_cons.2 ⟨Tryz.t2, List.forall_mem_cons.2 ⟨Tryz.t3, List.forall_mem_cons.2 ⟨Tryz.t4, List.forall_mem_cons.2 ⟨Tryz.t5, List.forall_mem_cons.2 ⟨Tryz.t9, List.forall_mem_cons.2 ⟨Tryz.t23, List.forall_mem_cons.2 ⟨Tryz.t24, List.forall_mem_cons.2 ⟨Tryz.t25, List.forall_mem_cons.2 ⟨Tryz.t26, List.forall_mem_cons.2 ⟨Tryz.t27, List.forall_mem_cons.2 ⟨Tryz.t28, List.forall_mem_cons.2 ⟨Tryz.t34, List.forall_mem_cons.2 ⟨Tryz.t36, List.forall_mem_cons.2 ⟨Tryz.t39, List.forall_mem_cons.2 ⟨Tryz.t41, List.forall_mem_cons.2 ⟨Tryz.t44, List.forall_mem_cons.2 ⟨Tryz.t45, List.forall_mem_cons.2 ⟨Tryz.t46, List.forall_mem_cons.2 ⟨Tryz.t47, List.forall_mem_cons.2 ⟨Tryz.t48, List.forall_mem_cons.2 ⟨Tryz.t51, List.forall_mem_cons.2 ⟨Tryz.t52, List.forall_mem_cons.2 ⟨Tryz.t53, List.forall_mem_cons.2 ⟨Tryz.t54, List.forall_mem_cons.2 ⟨Tryz.t55, List.forall_mem_cons.2 ⟨Tryz.t63, List.forall_mem_cons.2 ⟨Tryz.t64, List.forall_mem_cons.2 ⟨Tryz.t68, List.forall_mem_cons.2 ⟨Tryz.t72, List.forall_mem_cons.2 ⟨Tryz.t77, List.forall_mem_cons.2 ⟨Tryz.t88, List.forall_mem_cons.2 ⟨Tryz.t102, List.forall_mem_cons.2 ⟨Tryz.t105, List.forall_mem_cons.2 ⟨Tryz.t136, fun _ h => by cases h⟩⟩⟩⟩⟩⟩⟩⟩⟩⟩⟩⟩⟩⟩⟩⟩⟩⟩⟩⟩⟩⟩⟩⟩⟩⟩⟩⟩⟩⟩⟩⟩⟩⟩
theorem Tryz.mix : Tryz.prog.follows .mixedOrders = true := by kernel_rfl

end Go.Proofs.YtaekecbadkcggaaGreatDoor
