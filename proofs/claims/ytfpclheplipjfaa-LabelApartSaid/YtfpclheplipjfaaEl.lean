import Derived.Test.YtfpclheplipjfaaRows
import Derived.Test.YtfpclheplipjfaaBase
namespace Go.Proofs.Ytfpclheplipjfaa
open Go.RowKit
theorem Try.el_u8 : Elem Try.prog 28 5 (.int .u8 0) 1 1 := ⟨Try.underlying28, by kernel_rfl, rfl, by decide⟩
end Go.Proofs.Ytfpclheplipjfaa
