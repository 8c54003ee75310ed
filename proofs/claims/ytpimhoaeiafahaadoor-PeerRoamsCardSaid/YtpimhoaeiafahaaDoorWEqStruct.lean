-- words of the print, cut down to what is used, by a program of this session
import Derived.Test.YtpimhoaeiafahaaDoorWAll
import Derived.Laws.StructEq
/-! ### 53. '==' of structs as_ one Bool -/
namespace Go.Proofs.YtpimhoaeiafahaaDoorW.PrintWords
open Go.RowKit
section
variable {P : Program} {d : Nat} {xs ys : Array Value} {f : Field} {fs : List Field} {a b : Value} {r s : Bool} {w : World}
end
end Go.Proofs.YtpimhoaeiafahaaDoorW.PrintWords
