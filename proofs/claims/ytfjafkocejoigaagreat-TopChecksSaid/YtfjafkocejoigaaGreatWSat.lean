/- Walks of Go functions of this seat, each by its contract. No condition beyond what each theorem says. -/
import Derived.Test.YtfjafkocejoigaaGreatBB
import Derived.Test.YtfjafkocejoigaaGreatWCnf
import Derived.Test.YtfjafkocejoigaaGreatProg
import Derived.KernelRfl
import Derived.Test.YtfjafkocejoigaaGreatQ
set_option maxRecDepth 4000
namespace Go.Um
open Go Go.RowKit

end Go.Um
