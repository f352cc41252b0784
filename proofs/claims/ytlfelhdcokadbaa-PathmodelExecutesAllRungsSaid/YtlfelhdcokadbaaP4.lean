/- What the law's row asks of its function. Conditions: none. -/
import Derived.Test.YtlfelhdcokadbaaB23
import Derived.Test.YtlfelhdcokadbaaR1
set_option linter.all false
namespace Go.AM
open Go.Proofs
theorem law4 (l : Lad) (st : Sta) (inp : List Bool) (hl : wideL l) (_ : SzK k26 st) (_ : SzK kbs inp) {Q : QT} (h : Q [.one (.bool true)] []) : F4 l st inp Q := ⟨hl, h⟩
end Go.AM
