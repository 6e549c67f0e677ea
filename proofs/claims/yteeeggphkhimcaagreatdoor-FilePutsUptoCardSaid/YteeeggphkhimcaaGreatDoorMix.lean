/- One fact on the seat's program that every walk leans on. -/
import Derived.Test.YteeeggphkhimcaaGreatDoorProg
import Derived.KernelRfl
namespace Go.Proofs.YteeeggphkhimcaaGreatDoor
open Go Go.Proofs
theorem Tryz.mixed : Tryz.prog.follows .mixedOrders = true := by kernel_rfl
end Go.Proofs.YteeeggphkhimcaaGreatDoor
