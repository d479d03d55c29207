/- Operations on bits. No condition. -/
import Derived.Test.YtfjafkocejoigaaGreatBC
namespace Go.Um
open Go Go.RowKit
section
variable {P : Program} {s : St} {o : Oper} {x y : Operand} {T T' : TypeId}
end
end Go.Um
