import Derived.Test.YtalcgnjkhnmmiaaRows
import Derived.Test.YtalcgnjkhnmmiaaBase
namespace Go.Proofs.Ytalcgnjkhnmmiaa
open Go.RowKit
theorem Try.el_u8 : Elem Try.prog 48 5 (.int .u8 0) 1 1 := ⟨Try.underlying48, by kernel_rfl, rfl, by decide⟩
end Go.Proofs.Ytalcgnjkhnmmiaa
