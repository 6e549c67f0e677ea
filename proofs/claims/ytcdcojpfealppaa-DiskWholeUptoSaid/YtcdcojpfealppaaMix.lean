/- One fact on the seat's program that every walk leans on. -/
import Derived.Test.YtcdcojpfealppaaProg
import Derived.KernelRfl
namespace Go.Proofs.Ytcdcojpfealppaa
open Go Go.Proofs
theorem Try.mixed : Try.prog.follows .mixedOrders = true := by kernel_rfl
end Go.Proofs.Ytcdcojpfealppaa
