/- Plain laws: with a core alone. No program in sight. No condition. -/
import Derived.Test.YtfjafkocejoigaaGreatPB
namespace Go.Um
namespace Sp

end Sp
end Go.Um
