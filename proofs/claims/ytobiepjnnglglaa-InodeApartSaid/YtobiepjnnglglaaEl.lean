import Derived.Test.YtobiepjnnglglaaRows
import Derived.Test.YtobiepjnnglglaaBase
namespace Go.Proofs.Ytobiepjnnglglaa
open Go.RowKit
theorem Try.el_u8 : Elem Try.prog 28 5 (.int .u8 0) 1 1 := ⟨Try.underlying28, by kernel_rfl, rfl, by decide⟩
end Go.Proofs.Ytobiepjnnglglaa
