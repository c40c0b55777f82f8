/-
  The rows of the program's table for the element types that this seat's slices have.
-/
import Derived.Test.YtjppommhamaibaaDoorRows
import Derived.KernelRfl
namespace Go.Proofs.YtjppommhamaibaaDoor
theorem infoInt : (Tryd.prog.info? 3).map (fun i => (i.zero, i.size, i.bytes)) = some (some (.int .i64 0), 1, 8) := by kernel_rfl
theorem infoStr : (Tryd.prog.info? 9).map (fun i => (i.zero, i.size, i.bytes)) = some (some (.string ⟨#[]⟩), 1, 16) := by kernel_rfl
theorem infoByte : (Tryd.prog.info? 5).map (fun i => (i.zero, i.size, i.bytes)) = some (some (.int .u8 0), 1, 1) := by kernel_rfl
end Go.Proofs.YtjppommhamaibaaDoor
