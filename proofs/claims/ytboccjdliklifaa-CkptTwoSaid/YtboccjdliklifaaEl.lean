import Derived.Test.YtboccjdliklifaaRows
import Derived.Test.YtboccjdliklifaaBase
namespace Go.Proofs.Ytboccjdliklifaa
open Go.RowKit
theorem Try.el_u8 : Elem Try.prog 29 5 (.int .u8 0) 1 1 := ⟨Try.underlying29, by kernel_rfl, rfl, by decide⟩
end Go.Proofs.Ytboccjdliklifaa
