/- The package-level variables of the library that the row lists, and what their memory holds. -/
import Derived.Test.YteckpdifeoffjaaDoorEngA
set_option linter.unusedVariables false
namespace Go.Eng

/-- The numbers of the variables, each with what is known of its cells. -/
def gtab : List (Nat × (Array Value → Prop)) :=
  (0, fun a => a = ((List.range 20).map fun i => Value.int .u64 ((10 ^ i : Nat) : Int)).toArray) ::
  []

end Go.Eng
