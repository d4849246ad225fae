import Derived.Test.YtalcgnjkhnmmiaaRows
import Derived.Test.YtalcgnjkhnmmiaaBase
namespace Go.Proofs.Ytalcgnjkhnmmiaa
open Go.RowKit
theorem Try.el_int : Elem Try.prog 42 3 (.int .i64 0) 1 8 := ⟨Try.underlying42, by kernel_rfl, rfl, by decide⟩
end Go.Proofs.Ytalcgnjkhnmmiaa
