/- The types' table holds in the translation. Conditions: none. -/
import Derived.Test.YtlfelhdcokadbaaFun
import Derived.Test.YtlfelhdcokadbaaTt
set_option linter.all false
namespace Go.AM
theorem tt_ok : ttOk Go.Proofs.Try.prog tt = true := by kernel_rfl
theorem mixed : Go.Proofs.Try.prog.follows .mixedOrders = true := by kernel_rfl
end Go.AM
