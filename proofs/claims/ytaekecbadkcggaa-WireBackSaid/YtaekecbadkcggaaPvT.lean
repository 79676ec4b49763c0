/- The types of this program's translation, as a table; each row is read off the program by the kernel. -/
import Derived.Test.YtaekecbadkcggaaPwD
import Derived.Test.YtaekecbadkcggaaProg
namespace Go.Proofs.Ytaekecbadkcggaa
open Go.Pv

def Try.i2 : TI := ⟨(.int .i64), 1, 8, [AV.int .i64 0], true⟩
theorem Try.t2 : tiOf Try.prog 2 = some Try.i2 := by kernel_rfl
def Try.i3 : TI := ⟨(.int .i64), 1, 8, [AV.int .i64 0], true⟩
theorem Try.t3 : tiOf Try.prog 3 = some Try.i3 := by kernel_rfl
def Try.i4 : TI := ⟨.bool, 1, 1, [AV.bool false], true⟩
theorem Try.t4 : tiOf Try.prog 4 = some Try.i4 := by kernel_rfl
def Try.i5 : TI := ⟨(.int .u8), 1, 1, [AV.int .u8 0], true⟩
theorem Try.t5 : tiOf Try.prog 5 = some Try.i5 := by kernel_rfl
def Try.i9 : TI := ⟨.str, 1, 16, [AV.str ByteArray.empty], true⟩
theorem Try.t9 : tiOf Try.prog 9 = some Try.i9 := by kernel_rfl
def Try.i22 : TI := ⟨(.slice 40), 1, 24, [AV.nilS], false⟩
theorem Try.t22 : tiOf Try.prog 22 = some Try.i22 := by kernel_rfl
def Try.i24 : TI := ⟨(.ptr 91), 1, 8, [AV.nilp], true⟩
theorem Try.t24 : tiOf Try.prog 24 = some Try.i24 := by kernel_rfl
def Try.i25 : TI := ⟨(.iface false), 1, 16, [AV.nilI], true⟩
theorem Try.t25 : tiOf Try.prog 25 = some Try.i25 := by kernel_rfl
def Try.i26 : TI := ⟨(.iface false), 1, 16, [AV.nilI], true⟩
theorem Try.t26 : tiOf Try.prog 26 = some Try.i26 := by kernel_rfl
def Try.i29 : TI := ⟨(.ptr 93), 1, 8, [AV.nilp], true⟩
theorem Try.t29 : tiOf Try.prog 29 = some Try.i29 := by kernel_rfl
def Try.i31 : TI := ⟨(.int .i64), 1, 8, [AV.int .i64 0], true⟩
theorem Try.t31 : tiOf Try.prog 31 = some Try.i31 := by kernel_rfl
def Try.i32 : TI := ⟨(.ptr 35), 1, 8, [AV.nilp], true⟩
theorem Try.t32 : tiOf Try.prog 32 = some Try.i32 := by kernel_rfl
def Try.i33 : TI := ⟨(.slice 38), 1, 24, [AV.nilS], false⟩
theorem Try.t33 : tiOf Try.prog 33 = some Try.i33 := by kernel_rfl
def Try.i34 : TI := ⟨(.struct true [(0, 3), (1, 33), (2, 3), (3, 3)]), 4, 48, [AV.int .i64 0, AV.nilS, AV.int .i64 0, AV.int .i64 0], false⟩
theorem Try.t34 : tiOf Try.prog 34 = some Try.i34 := by kernel_rfl
def Try.i35 : TI := ⟨(.struct true [(0, 3), (1, 33), (2, 3), (3, 3)]), 4, 48, [AV.int .i64 0, AV.nilS, AV.int .i64 0, AV.int .i64 0], false⟩
theorem Try.t35 : tiOf Try.prog 35 = some Try.i35 := by kernel_rfl
def Try.i36 : TI := ⟨(.int .u64), 1, 8, [AV.int .u64 0], true⟩
theorem Try.t36 : tiOf Try.prog 36 = some Try.i36 := by kernel_rfl
def Try.i37 : TI := ⟨(.slice 49), 1, 24, [AV.nilS], false⟩
theorem Try.t37 : tiOf Try.prog 37 = some Try.i37 := by kernel_rfl
def Try.i38 : TI := ⟨(.slice 5), 1, 24, [AV.nilS], false⟩
theorem Try.t38 : tiOf Try.prog 38 = some Try.i38 := by kernel_rfl
def Try.i39 : TI := ⟨(.struct true [(0, 3), (1, 3), (2, 4), (3, 38)]), 4, 48, [AV.int .i64 0, AV.int .i64 0, AV.bool false, AV.nilS], false⟩
theorem Try.t39 : tiOf Try.prog 39 = some Try.i39 := by kernel_rfl
def Try.i40 : TI := ⟨(.struct true [(0, 3), (1, 3), (2, 4), (3, 38)]), 4, 48, [AV.int .i64 0, AV.int .i64 0, AV.bool false, AV.nilS], false⟩
theorem Try.t40 : tiOf Try.prog 40 = some Try.i40 := by kernel_rfl
def Try.i48 : TI := ⟨(.struct true [(0, 36), (1, 38)]), 2, 32, [AV.int .u64 0, AV.nilS], false⟩
theorem Try.t48 : tiOf Try.prog 48 = some Try.i48 := by kernel_rfl
def Try.i49 : TI := ⟨(.struct true [(0, 36), (1, 38)]), 2, 32, [AV.int .u64 0, AV.nilS], false⟩
theorem Try.t49 : tiOf Try.prog 49 = some Try.i49 := by kernel_rfl
def Try.i56 : TI := ⟨(.slice 64), 1, 24, [AV.nilS], false⟩
theorem Try.t56 : tiOf Try.prog 56 = some Try.i56 := by kernel_rfl
def Try.i57 : TI := ⟨(.slice 59), 1, 24, [AV.nilS], false⟩
theorem Try.t57 : tiOf Try.prog 57 = some Try.i57 := by kernel_rfl
def Try.i58 : TI := ⟨(.struct true [(0, 3), (1, 9), (2, 9), (3, 56), (4, 57)]), 5, 88, [AV.int .i64 0, AV.str ByteArray.empty, AV.str ByteArray.empty, AV.nilS, AV.nilS], false⟩
theorem Try.t58 : tiOf Try.prog 58 = some Try.i58 := by kernel_rfl
def Try.i59 : TI := ⟨(.struct true [(0, 3), (1, 9), (2, 9), (3, 56), (4, 57)]), 5, 88, [AV.int .i64 0, AV.str ByteArray.empty, AV.str ByteArray.empty, AV.nilS, AV.nilS], false⟩
theorem Try.t59 : tiOf Try.prog 59 = some Try.i59 := by kernel_rfl
def Try.i60 : TI := ⟨.fn, 1, 8, [AV.nilF], false⟩
theorem Try.t60 : tiOf Try.prog 60 = some Try.i60 := by kernel_rfl
def Try.i63 : TI := ⟨(.struct true [(0, 9), (1, 4), (2, 2), (3, 9)]), 4, 48, [AV.str ByteArray.empty, AV.bool false, AV.int .i64 0, AV.str ByteArray.empty], true⟩
theorem Try.t63 : tiOf Try.prog 63 = some Try.i63 := by kernel_rfl
def Try.i64 : TI := ⟨(.struct true [(0, 9), (1, 4), (2, 2), (3, 9)]), 4, 48, [AV.str ByteArray.empty, AV.bool false, AV.int .i64 0, AV.str ByteArray.empty], true⟩
theorem Try.t64 : tiOf Try.prog 64 = some Try.i64 := by kernel_rfl
def Try.i66 : TI := ⟨(.slice 9), 1, 24, [AV.nilS], false⟩
theorem Try.t66 : tiOf Try.prog 66 = some Try.i66 := by kernel_rfl
def Try.i69 : TI := ⟨(.struct true [(0, 2), (1, 2), (2, 2), (3, 2)]), 4, 32, [AV.int .i64 0, AV.int .i64 0, AV.int .i64 0, AV.int .i64 0], true⟩
theorem Try.t69 : tiOf Try.prog 69 = some Try.i69 := by kernel_rfl
def Try.i70 : TI := ⟨(.struct true [(0, 2), (1, 2), (2, 2), (3, 2)]), 4, 32, [AV.int .i64 0, AV.int .i64 0, AV.int .i64 0, AV.int .i64 0], true⟩
theorem Try.t70 : tiOf Try.prog 70 = some Try.i70 := by kernel_rfl
def Try.i71 : TI := ⟨(.int .u32), 1, 4, [AV.int .u32 0], true⟩
theorem Try.t71 : tiOf Try.prog 71 = some Try.i71 := by kernel_rfl
def Try.i72 : TI := ⟨(.struct true [(0, 2), (1, 2)]), 2, 16, [AV.int .i64 0, AV.int .i64 0], true⟩
theorem Try.t72 : tiOf Try.prog 72 = some Try.i72 := by kernel_rfl
def Try.i73 : TI := ⟨(.struct true [(0, 2), (1, 2)]), 2, 16, [AV.int .i64 0, AV.int .i64 0], true⟩
theorem Try.t73 : tiOf Try.prog 73 = some Try.i73 := by kernel_rfl
def Try.i74 : TI := ⟨(.struct true [(0, 3), (1, 71), (2, 73), (4, 56)]), 5, 56, [AV.int .i64 0, AV.int .u32 0, AV.int .i64 0, AV.int .i64 0, AV.nilS], false⟩
theorem Try.t74 : tiOf Try.prog 74 = some Try.i74 := by kernel_rfl
def Try.i75 : TI := ⟨(.struct true [(0, 3), (1, 71), (2, 73), (4, 56)]), 5, 56, [AV.int .i64 0, AV.int .u32 0, AV.int .i64 0, AV.int .i64 0, AV.nilS], false⟩
theorem Try.t75 : tiOf Try.prog 75 = some Try.i75 := by kernel_rfl
def Try.i76 : TI := ⟨(.struct true [(0, 3), (1, 3), (2, 3), (3, 3), (4, 70), (8, 9), (9, 75)]), 14, 136, [AV.int .i64 0, AV.int .i64 0, AV.int .i64 0, AV.int .i64 0, AV.int .i64 0, AV.int .i64 0, AV.int .i64 0, AV.int .i64 0, AV.str ByteArray.empty, AV.int .i64 0, AV.int .u32 0, AV.int .i64 0, AV.int .i64 0, AV.nilS], false⟩
theorem Try.t76 : tiOf Try.prog 76 = some Try.i76 := by kernel_rfl
def Try.i77 : TI := ⟨(.struct true [(0, 3), (1, 3), (2, 3), (3, 3), (4, 70), (8, 9), (9, 75)]), 14, 136, [AV.int .i64 0, AV.int .i64 0, AV.int .i64 0, AV.int .i64 0, AV.int .i64 0, AV.int .i64 0, AV.int .i64 0, AV.int .i64 0, AV.str ByteArray.empty, AV.int .i64 0, AV.int .u32 0, AV.int .i64 0, AV.int .i64 0, AV.nilS], false⟩
theorem Try.t77 : tiOf Try.prog 77 = some Try.i77 := by kernel_rfl
def Try.i90 : TI := ⟨(.struct true [(0, 3), (1, 33), (2, 36), (3, 36)]), 4, 48, [AV.int .i64 0, AV.nilS, AV.int .u64 0, AV.int .u64 0], false⟩
theorem Try.t90 : tiOf Try.prog 90 = some Try.i90 := by kernel_rfl
def Try.i91 : TI := ⟨(.struct true [(0, 3), (1, 33), (2, 36), (3, 36)]), 4, 48, [AV.int .i64 0, AV.nilS, AV.int .u64 0, AV.int .u64 0], false⟩
theorem Try.t91 : tiOf Try.prog 91 = some Try.i91 := by kernel_rfl
def Try.i92 : TI := ⟨(.struct true [(0, 36)]), 1, 8, [AV.int .u64 0], true⟩
theorem Try.t92 : tiOf Try.prog 92 = some Try.i92 := by kernel_rfl
def Try.i93 : TI := ⟨(.struct true [(0, 36)]), 1, 8, [AV.int .u64 0], true⟩
theorem Try.t93 : tiOf Try.prog 93 = some Try.i93 := by kernel_rfl
def Try.i100 : TI := ⟨(.ptr 102), 1, 8, [AV.nilp], true⟩
theorem Try.t100 : tiOf Try.prog 100 = some Try.i100 := by kernel_rfl
def Try.i101 : TI := ⟨(.struct false [(0, 38), (1, 26)]), 2, 40, [AV.nilS, AV.nilI], false⟩
theorem Try.t101 : tiOf Try.prog 101 = some Try.i101 := by kernel_rfl
def Try.i102 : TI := ⟨(.struct false [(0, 38), (1, 26)]), 2, 40, [AV.nilS, AV.nilI], false⟩
theorem Try.t102 : tiOf Try.prog 102 = some Try.i102 := by kernel_rfl
def Try.i108 : TI := ⟨(.ptr 110), 1, 8, [AV.nilp], true⟩
theorem Try.t108 : tiOf Try.prog 108 = some Try.i108 := by kernel_rfl
def Try.i109 : TI := ⟨(.struct true [(0, 38), (1, 3), (2, 3)]), 3, 40, [AV.nilS, AV.int .i64 0, AV.int .i64 0], false⟩
theorem Try.t109 : tiOf Try.prog 109 = some Try.i109 := by kernel_rfl
def Try.i110 : TI := ⟨(.struct true [(0, 38), (1, 3), (2, 3)]), 3, 40, [AV.nilS, AV.int .i64 0, AV.int .i64 0], false⟩
theorem Try.t110 : tiOf Try.prog 110 = some Try.i110 := by kernel_rfl
def Try.i114 : TI := ⟨(.ptr 116), 1, 8, [AV.nilp], true⟩
theorem Try.t114 : tiOf Try.prog 114 = some Try.i114 := by kernel_rfl
def Try.i115 : TI := ⟨(.struct true [(0, 38)]), 1, 24, [AV.nilS], false⟩
theorem Try.t115 : tiOf Try.prog 115 = some Try.i115 := by kernel_rfl
def Try.i116 : TI := ⟨(.struct true [(0, 38)]), 1, 24, [AV.nilS], false⟩
theorem Try.t116 : tiOf Try.prog 116 = some Try.i116 := by kernel_rfl
def Try.i117 : TI := ⟨(.slice 2), 1, 24, [AV.nilS], false⟩
theorem Try.t117 : tiOf Try.prog 117 = some Try.i117 := by kernel_rfl
def Try.i130 : TI := ⟨.fn, 1, 8, [AV.nilF], false⟩
theorem Try.t130 : tiOf Try.prog 130 = some Try.i130 := by kernel_rfl
def Try.i133 : TI := ⟨(.int .u64), 1, 8, [AV.int .u64 0], true⟩
theorem Try.t133 : tiOf Try.prog 133 = some Try.i133 := by kernel_rfl

instance : Tab Try.prog where
  T := [(2, Try.i2), (3, Try.i3), (4, Try.i4), (5, Try.i5), (9, Try.i9), (22, Try.i22), (24, Try.i24), (25, Try.i25), (26, Try.i26), (29, Try.i29), (31, Try.i31), (32, Try.i32), (33, Try.i33), (34, Try.i34), (35, Try.i35), (36, Try.i36), (37, Try.i37), (38, Try.i38), (39, Try.i39), (40, Try.i40), (48, Try.i48), (49, Try.i49), (56, Try.i56), (57, Try.i57), (58, Try.i58), (59, Try.i59), (60, Try.i60), (63, Try.i63), (64, Try.i64), (66, Try.i66), (69, Try.i69), (70, Try.i70), (71, Try.i71), (72, Try.i72), (73, Try.i73), (74, Try.i74), (75, Try.i75), (76, Try.i76), (77, Try.i77), (90, Try.i90), (91, Try.i91), (92, Try.i92), (93, Try.i93), (100, Try.i100), (101, Try.i101), (102, Try.i102), (108, Try.i108), (109, Try.i109), (110, Try.i110), (114, Try.i114), (115, Try.i115), (116, Try.i116), (117, Try.i117), (130, Try.i130), (133, Try.i133)]
  ok := by
    refine List.forall_mem_cons.2 ⟨Try.t2, List.forall_mem_cons.2 ⟨Try.t3, List.forall_mem_cons.2 ⟨Try.t4, List.forall_mem_cons.2 ⟨Try.t5, List.forall_mem_cons.2 ⟨Try.t9, List.forall_mem_cons.2 ⟨Try.t22, List.forall_mem_cons.2 ⟨Try.t24, List.forall_mem_cons.2 ⟨Try.t25, List.forall_mem_cons.2 ⟨Try.t26, List.forall_mem_cons.2 ⟨Try.t29, List.forall_mem_cons.2 ⟨Try.t31, List.forall_mem_cons.2 ⟨Try.t32, List.forall_mem_cons.2 ⟨Try.t33, List.forall_mem_cons.2 ⟨Try.t34, List.forall_mem_cons.2 ⟨Try.t35, List.forall_mem_cons.2 ⟨Try.t36, List.forall_mem_cons.2 ⟨Try.t37, List.forall_mem_cons.2 ⟨Try.t38, List.forall_mem_cons.2 ⟨Try.t39, List.forall_mem_cons.2 ⟨Try.t40, List.forall_mem_cons.2 ⟨Try.t48, List.forall_mem_cons.2 ⟨Try.t49, List.forall_mem_cons.2 ⟨Try.t56, List.forall_mem_cons.2 ⟨Try.t57, List.forall_mem_cons.2 ⟨Try.t58, List.forall_mem_cons.2 ⟨Try.t59, List.forall_mem_cons.2 ⟨Try.t60, List.forall_mem_cons.2 ⟨Try.t63, List.forall_mem_cons.2 ⟨Try.t64, List.forall_mem_cons.2 ⟨Try.t66, List.forall_mem_cons.2 ⟨Try.t69, List.forall_mem_cons.2 ⟨Try.t70, List.forall_mem_cons.2 ⟨Try.t71, List.forall_mem_cons.2 ⟨Try.t72, List.forall_mem_cons.2 ⟨Try.t73, List.forall_mem_cons.2 ⟨Try.t74, List.forall_mem_cons.2 ⟨Try.t75, List.forall_mem_cons.2 ⟨Try.t76, List.forall_mem_cons.2 ⟨Try.t77, List.forall_mem_cons.2 ⟨Try.t90, List.forall_mem_cons.2 ⟨Try.t91, List.forall_mem_cons.2 ⟨Try.t92, List.forall_mem_cons.2 ⟨Try.t93, List.forall_mem_cons.2 ⟨Try.t100, List.forall_mem_cons.2 ⟨Try.t101, List.forall_mem_cons.2 ⟨Try.t102, List.forall_mem_cons.2 ⟨Try.t108, List.forall_mem_cons.2 ⟨Try.t109, List.forall_mem_cons.2 ⟨Try.t110, List.forall_mem_cons.2 ⟨Try.t114, List.forall_mem_cons.2 ⟨Try.t115, List.forall_mem_cons.2 ⟨Try.t116, List.forall_mem_cons.2 ⟨Try.t117, List.forall_mem_cons.2 ⟨Try.t130, List.forall_mem_cons.2 ⟨Try.t133, fun _ h => by cases h⟩⟩⟩⟩⟩⟩⟩⟩⟩⟩⟩⟩⟩⟩⟩⟩⟩⟩⟩⟩⟩⟩⟩⟩⟩⟩⟩⟩⟩⟩⟩⟩⟩⟩⟩⟩⟩⟩⟩⟩⟩⟩⟩⟩⟩⟩⟩⟩⟩⟩⟩⟩⟩⟩⟩
theorem Try.mix : Try.prog.follows .mixedOrders = true := by kernel_rfl

end Go.Proofs.Ytaekecbadkcggaa
