/- The types of this program's translation, as a table; each row is read off the program by the kernel. -/
import Derived.Test.YtfonfgnbjkpanaaPvZd
import Derived.Test.YtfonfgnbjkpanaaProg
namespace Go.Proofs.Ytfonfgnbjkpanaa
open Go.Pv

def Try.i2 : TI := ⟨(.int .i64), 1, 8, [AV.int .i64 0], true⟩
theorem Try.t2 : tiOf Try.prog 2 = some Try.i2 := by kernel_rfl
def Try.i3 : TI := ⟨(.int .i64), 1, 8, [AV.int .i64 0], true⟩
theorem Try.t3 : tiOf Try.prog 3 = some Try.i3 := by kernel_rfl
def Try.i4 : TI := ⟨.bool, 1, 1, [AV.bool false], true⟩
theorem Try.t4 : tiOf Try.prog 4 = some Try.i4 := by kernel_rfl
def Try.i5 : TI := ⟨(.int .u8), 1, 1, [AV.int .u8 0], true⟩
theorem Try.t5 : tiOf Try.prog 5 = some Try.i5 := by kernel_rfl
def Try.i9 : TI := ⟨.str, 1, 16, [AV.str ByteArray.empty], true⟩
theorem Try.t9 : tiOf Try.prog 9 = some Try.i9 := by kernel_rfl
def Try.i23 : TI := ⟨(.struct true [(0, 2), (1, 2), (2, 2), (3, 2)]), 4, 32, [AV.int .i64 0, AV.int .i64 0, AV.int .i64 0, AV.int .i64 0], true⟩
theorem Try.t23 : tiOf Try.prog 23 = some Try.i23 := by kernel_rfl
def Try.i25 : TI := ⟨(.struct true [(0, 2), (1, 2)]), 2, 16, [AV.int .i64 0, AV.int .i64 0], true⟩
theorem Try.t25 : tiOf Try.prog 25 = some Try.i25 := by kernel_rfl
def Try.i37 : TI := ⟨(.slice 25), 1, 24, [AV.nilS], false⟩
theorem Try.t37 : tiOf Try.prog 37 = some Try.i37 := by kernel_rfl
def Try.i40 : TI := ⟨(.int .u64), 1, 8, [AV.int .u64 0], true⟩
theorem Try.t40 : tiOf Try.prog 40 = some Try.i40 := by kernel_rfl
def Try.i42 : TI := ⟨(.iface false), 1, 16, [AV.nilI], true⟩
theorem Try.t42 : tiOf Try.prog 42 = some Try.i42 := by kernel_rfl
def Try.i47 : TI := ⟨(.int .i64), 1, 8, [AV.int .i64 0], true⟩
theorem Try.t47 : tiOf Try.prog 47 = some Try.i47 := by kernel_rfl
def Try.i53 : TI := ⟨(.slice 56), 1, 24, [AV.nilS], false⟩
theorem Try.t53 : tiOf Try.prog 53 = some Try.i53 := by kernel_rfl
def Try.i54 : TI := ⟨(.ptr 88), 1, 8, [AV.nilp], true⟩
theorem Try.t54 : tiOf Try.prog 54 = some Try.i54 := by kernel_rfl
def Try.i56 : TI := ⟨(.slice 5), 1, 24, [AV.nilS], false⟩
theorem Try.t56 : tiOf Try.prog 56 = some Try.i56 := by kernel_rfl
def Try.i65 : TI := ⟨(.slice 3), 1, 24, [AV.nilS], false⟩
theorem Try.t65 : tiOf Try.prog 65 = some Try.i65 := by kernel_rfl
def Try.i88 : TI := ⟨(.struct true [(0, 56), (1, 4)]), 2, 32, [AV.nilS, AV.bool false], false⟩
theorem Try.t88 : tiOf Try.prog 88 = some Try.i88 := by kernel_rfl
def Try.i92 : TI := ⟨.fn, 1, 8, [AV.nilF], false⟩
theorem Try.t92 : tiOf Try.prog 92 = some Try.i92 := by kernel_rfl

instance : Tab Try.prog where
  T := [(2, Try.i2), (3, Try.i3), (4, Try.i4), (5, Try.i5), (9, Try.i9), (23, Try.i23), (25, Try.i25), (37, Try.i37), (40, Try.i40), (42, Try.i42), (47, Try.i47), (53, Try.i53), (54, Try.i54), (56, Try.i56), (65, Try.i65), (88, Try.i88), (92, Try.i92)]
  ok := by
    refine List.forall_mem_cons.2 ⟨Try.t2, List.forall_mem_cons.2 ⟨Try.t3, List.forall_mem_cons.2 ⟨Try.t4, List.forall_mem_cons.2 ⟨Try.t5, List.forall_mem_cons.2 ⟨Try.t9, List.forall_mem_cons.2 ⟨Try.t23, List.forall_mem_cons.2 ⟨Try.t25, List.forall_mem_cons.2 ⟨Try.t37, List.forall_mem_cons.2 ⟨Try.t40, List.forall_mem_cons.2 ⟨Try.t42, List.forall_mem_cons.2 ⟨Try.t47, List.forall_mem_cons.2 ⟨Try.t53, List.forall_mem_cons.2 ⟨Try.t54, List.forall_mem_cons.2 ⟨Try.t56, List.forall_mem_cons.2 ⟨Try.t65, List.forall_mem_cons.2 ⟨Try.t88, List.forall_mem_cons.2 ⟨Try.t92, fun _ h => by cases h⟩⟩⟩⟩⟩⟩⟩⟩⟩⟩⟩⟩⟩⟩⟩⟩⟩
theorem Try.mix : Try.prog.follows .mixedOrders = true := by kernel_rfl

end Go.Proofs.Ytfonfgnbjkpanaa
