/- Plain laws: how large a translation is. No program in sight. No condition. -/
import Derived.Test.YtfjafkocejoigaaGreatTr1
import Derived.Test.YtfjafkocejoigaaGreatTp4
namespace Go.Um
namespace Sp

end Sp
end Go.Um
