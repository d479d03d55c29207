/- The forms of steps, answers and options. No condition. -/
import Derived.Test.YtfjafkocejoigaaGreatBB
namespace Go.Um
open Go Go.RowKit

abbrev dFra (p : Int × Int) : D := .agg (.cons (di p.1) (.cons (di p.2) .nil))
abbrev fras (l : List (Int × Int)) : D := .list 2 dFra (0, 0) l
abbrev dStp (p : Int × List Int) : D := .agg (.cons (di p.1) (.cons (ints p.2) (.cons (fras []) (.cons (di 0) (.cons (di 0) (.cons (di 0) (.cons (ints []) (.cons (di 0) (.cons (di 0) .nil)))))))))
abbrev stps (l : List (Int × List Int)) : D := .list 9 dStp (0, []) l
abbrev lrn (l : List (List Int)) : List (Int × List Int) := l.map fun c => (1, c)
abbrev ans (st : Int) (h : List Bool) (l : List (Int × List Int)) (c : List Int) (u : Int) : D := .agg (.cons (di st) (.cons (bools h) (.cons (stps l) (.cons (ints c) (.cons (di u) .nil)))))
abbrev opts (a b c d : Int) : D := .agg (.cons (di a) (.cons (di b) (.cons (di c) (.cons (di d) .nil))))
end Go.Um
