/- The element types' rows of the table. -/
import Derived.Test.YtmmkeaokhbmgoaaGreatDoorProg
import Derived.Test.YtmmkeaokhbmgoaaGreatDoorApp
namespace Go.Proofs.YtmmkeaokhbmgoaaGreatDoor
theorem ty_bytes : SliceTy Tryz.prog 37 5 (.int .u8 0) 1 1 := ⟨Tryz.underlying37, info_parts (by kernel_rfl), rfl, by decide⟩
theorem ty_ints : SliceTy Tryz.prog 27 3 (.int .i64 0) 1 8 := ⟨Tryz.underlying27, info_parts (by kernel_rfl), rfl, by decide⟩
theorem ty_int64s : SliceTy Tryz.prog 51 2 (.int .i64 0) 1 8 := ⟨Tryz.underlying51, info_parts (by kernel_rfl), rfl, by decide⟩
theorem ty_words : SliceTy Tryz.prog 107 114 (.agg #[.string ByteArray.empty, .int .i64 0]) 2 24 := ⟨Tryz.underlying107, info_parts (by kernel_rfl), rfl, by decide⟩
end Go.Proofs.YtmmkeaokhbmgoaaGreatDoor
